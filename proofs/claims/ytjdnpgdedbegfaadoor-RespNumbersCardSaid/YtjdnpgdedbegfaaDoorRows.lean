/-
  NARROWER THAN 'FOR EVERY INPUT', by the rows' own cells (each row's printed sentence says how): RespLines: laid · RespRows: laid · RespFlat: laid · RespNumbers: laid · RespBack: laid.
  DERIVED. THE GIVEN ROWS OF THIS SEAT. 5 by the template 'for every input the law returns true; each argument reads behind the call as it read before'; 0 by the template 'total and deterministic' (their statements: YtjdnpgdedbegfaaDoorTotals.lean).
  GIVEN WITH THE SEED: the statements are not yours to turn. If you find one false, say at which input.
  Laid BY PROGRAM, IN A SANDBOX (cutbox-rows.mjs): the forced cells as the released guide's own fill.sh prints them over the translation aa2027db8719a9b1… (all of the seat's roots in one cut). By AI agents, Wed Nov 11 2026. No macro, syntax, notation, axiom, sorry.
-/
import Derived.Test.YtjdnpgdedbegfaaDoorChecked
import GoSem.PinnedTables
import GoSem.Claim
import GoSem.ClaimJoined
import GoSem.ClaimMapViews
import Derived.JoinedTies
import Derived.KernelRfl
namespace Go.Proofs.YtjdnpgdedbegfaaDoor
/- THE CELL 'sum', in the pinned program and in every row, IS THE sha256 OF THE DUMP (.gsa) THAT YtjdnpgdedbegfaaDoorProg.lean LOADS. Nothing in Lean hashes anything: it is a label: what it is worth is what the hold of that sum in a sandbox is worth. -/
noncomputable def Tryd.pinned : Pinned := { name := "ytjdnpgdedbegfaadoor", sum := "aa2027db8719a9b16fbf2edb7916d38c7033573fce70b7ed25666d0cf15b51b0", checked := Tryd.checked }
namespace Rows
def none {H : Type} : Left H := { results := [], args := [] }

/- WHAT THE LISTED PACKAGE-LEVEL VARIABLES READ AS WHEN THE CALL BEGINS. Each datum BY PROGRAM (the guide's laid-datum.mjs) off the statement by which the dump's own 'gosem.cut.vars' lays the variable. In a bare row this is a premise. The card (YtjdnpgdedbegfaaDoorCards.lean) ties it to the program's text. -/
def laid_unicode_utf8_acceptRanges {H : Type} : DataW H := .agg [.agg [.lit (.int .u8 128), .lit (.int .u8 191)], .agg [.lit (.int .u8 160), .lit (.int .u8 191)], .agg [.lit (.int .u8 128), .lit (.int .u8 159)], .agg [.lit (.int .u8 144), .lit (.int .u8 191)], .agg [.lit (.int .u8 128), .lit (.int .u8 143)], .agg [.lit (.int .u8 0), .lit (.int .u8 0)], .agg [.lit (.int .u8 0), .lit (.int .u8 0)], .agg [.lit (.int .u8 0), .lit (.int .u8 0)], .agg [.lit (.int .u8 0), .lit (.int .u8 0)], .agg [.lit (.int .u8 0), .lit (.int .u8 0)], .agg [.lit (.int .u8 0), .lit (.int .u8 0)], .agg [.lit (.int .u8 0), .lit (.int .u8 0)], .agg [.lit (.int .u8 0), .lit (.int .u8 0)], .agg [.lit (.int .u8 0), .lit (.int .u8 0)], .agg [.lit (.int .u8 0), .lit (.int .u8 0)], .agg [.lit (.int .u8 0), .lit (.int .u8 0)]]
/-- One of Go's own tables, pinned by name: the form's constant. -/
def laid_unicode_utf8_first : DataW Unit := Go.Pinned.utf8First

/-- 'tallboylaw18.RespLines': WHATEVER THE INPUT: true; the input reads as it did. -/
def respLinesSpec : ChangeSpec := { name := "respLines", fn := fun _ => fun
  | [d1, d2] => { results := [.lit (.bool true)], args := [d1, d2] }
  | _ => none }
def respLinesRow : OpenClaim := { program := "ytjdnpgdedbegfaadoor", sum := "aa2027db8719a9b16fbf2edb7916d38c7033573fce70b7ed25666d0cf15b51b0", func := "tallboy/tallboylaw18.RespLines", spec := "respLines", inPlace := ["internal/bytealg.CountString", "internal/bytealg.IndexByteString", "internal/bytealg.IndexString", "internal/abi.NoEscape", "internal/bytealg.MakeNoZero"], recurses := true, named := ["internal/bytealg.MaxLen", "unicode/utf8.first", "unicode/utf8.acceptRanges"], apart := false, laid := [("unicode/utf8.acceptRanges", laid_unicode_utf8_acceptRanges), ("unicode/utf8.first", laid_unicode_utf8_first)] }
def RespLinesSaid : Prop := respLinesRow.holds Tryd.pinned (OpenSpec.ofChange respLinesSpec)

/-- ITS FALSE NEIGHBOUR: 'it returns false'. Refute it at one input. -/
def respLinesWrong : ChangeSpec := { name := "respLines", fn := fun _ => fun
  | [d1, d2] => { results := [.lit (.bool false)], args := [d1, d2] }
  | _ => none }
def RespLinesWrongFalsely : Prop := respLinesRow.holds Tryd.pinned (OpenSpec.ofChange respLinesWrong)

/-- 'tallboylaw18.RespRows': WHATEVER THE INPUT: true; the input reads as it did. -/
def respRowsSpec : ChangeSpec := { name := "respRows", fn := fun _ => fun
  | [d1, d2, d3] => { results := [.lit (.bool true)], args := [d1, d2, d3] }
  | _ => none }
def respRowsRow : OpenClaim := { program := "ytjdnpgdedbegfaadoor", sum := "aa2027db8719a9b16fbf2edb7916d38c7033573fce70b7ed25666d0cf15b51b0", func := "tallboy/tallboylaw18.RespRows", spec := "respRows", inPlace := ["internal/bytealg.CountString", "internal/bytealg.IndexByteString", "internal/bytealg.IndexString", "internal/abi.NoEscape", "internal/bytealg.MakeNoZero"], recurses := true, named := ["internal/bytealg.MaxLen", "unicode/utf8.first", "unicode/utf8.acceptRanges"], apart := false, laid := [("unicode/utf8.acceptRanges", laid_unicode_utf8_acceptRanges), ("unicode/utf8.first", laid_unicode_utf8_first)] }
def RespRowsSaid : Prop := respRowsRow.holds Tryd.pinned (OpenSpec.ofChange respRowsSpec)

/-- ITS FALSE NEIGHBOUR: 'it returns false'. Refute it at one input. -/
def respRowsWrong : ChangeSpec := { name := "respRows", fn := fun _ => fun
  | [d1, d2, d3] => { results := [.lit (.bool false)], args := [d1, d2, d3] }
  | _ => none }
def RespRowsWrongFalsely : Prop := respRowsRow.holds Tryd.pinned (OpenSpec.ofChange respRowsWrong)

/-- 'tallboylaw18.RespFlat': WHATEVER THE INPUT: true; the input reads as it did. -/
def respFlatSpec : ChangeSpec := { name := "respFlat", fn := fun _ => fun
  | [d] => { results := [.lit (.bool true)], args := [d] }
  | _ => none }
def respFlatRow : OpenClaim := { program := "ytjdnpgdedbegfaadoor", sum := "aa2027db8719a9b16fbf2edb7916d38c7033573fce70b7ed25666d0cf15b51b0", func := "tallboy/tallboylaw18.RespFlat", spec := "respFlat", inPlace := ["internal/bytealg.CountString", "internal/bytealg.IndexByteString", "internal/bytealg.IndexString", "internal/abi.NoEscape", "internal/bytealg.MakeNoZero"], recurses := true, named := ["internal/bytealg.MaxLen", "unicode/utf8.first", "unicode/utf8.acceptRanges"], apart := false, laid := [("unicode/utf8.acceptRanges", laid_unicode_utf8_acceptRanges), ("unicode/utf8.first", laid_unicode_utf8_first)] }
def RespFlatSaid : Prop := respFlatRow.holds Tryd.pinned (OpenSpec.ofChange respFlatSpec)

/-- ITS FALSE NEIGHBOUR: 'it returns false'. Refute it at one input. -/
def respFlatWrong : ChangeSpec := { name := "respFlat", fn := fun _ => fun
  | [d] => { results := [.lit (.bool false)], args := [d] }
  | _ => none }
def RespFlatWrongFalsely : Prop := respFlatRow.holds Tryd.pinned (OpenSpec.ofChange respFlatWrong)

/-- 'tallboylaw18.RespNumbers': WHATEVER THE INPUT: true; the input reads as it did. -/
def respNumbersSpec : ChangeSpec := { name := "respNumbers", fn := fun _ => fun
  | [] => { results := [.lit (.bool true)], args := [] }
  | _ => none }
def respNumbersRow : OpenClaim := { program := "ytjdnpgdedbegfaadoor", sum := "aa2027db8719a9b16fbf2edb7916d38c7033573fce70b7ed25666d0cf15b51b0", func := "tallboy/tallboylaw18.RespNumbers", spec := "respNumbers", inPlace := ["internal/bytealg.CountString", "internal/bytealg.IndexByteString", "internal/bytealg.IndexString", "internal/abi.NoEscape", "internal/bytealg.MakeNoZero"], recurses := true, named := ["internal/bytealg.MaxLen", "unicode/utf8.first", "unicode/utf8.acceptRanges"], apart := false, laid := [("unicode/utf8.acceptRanges", laid_unicode_utf8_acceptRanges), ("unicode/utf8.first", laid_unicode_utf8_first)] }
def RespNumbersSaid : Prop := respNumbersRow.holds Tryd.pinned (OpenSpec.ofChange respNumbersSpec)

/-- ITS FALSE NEIGHBOUR: 'it returns false'. Refute it at one input. -/
def respNumbersWrong : ChangeSpec := { name := "respNumbers", fn := fun _ => fun
  | [] => { results := [.lit (.bool false)], args := [] }
  | _ => none }
def RespNumbersWrongFalsely : Prop := respNumbersRow.holds Tryd.pinned (OpenSpec.ofChange respNumbersWrong)

/-- 'tallboylaw18.RespBack': WHATEVER THE INPUT: true; the input reads as it did. -/
def respBackSpec : ChangeSpec := { name := "respBack", fn := fun _ => fun
  | [d1, d2] => { results := [.lit (.bool true)], args := [d1, d2] }
  | _ => none }
def respBackRow : OpenClaim := { program := "ytjdnpgdedbegfaadoor", sum := "aa2027db8719a9b16fbf2edb7916d38c7033573fce70b7ed25666d0cf15b51b0", func := "tallboy/tallboylaw18.RespBack", spec := "respBack", inPlace := ["internal/bytealg.CountString", "internal/bytealg.IndexByteString", "internal/bytealg.IndexString", "internal/abi.NoEscape", "internal/bytealg.MakeNoZero"], recurses := true, named := ["internal/bytealg.MaxLen", "unicode/utf8.first", "unicode/utf8.acceptRanges"], apart := false, laid := [("unicode/utf8.acceptRanges", laid_unicode_utf8_acceptRanges), ("unicode/utf8.first", laid_unicode_utf8_first)] }
def RespBackSaid : Prop := respBackRow.holds Tryd.pinned (OpenSpec.ofChange respBackSpec)

/-- ITS FALSE NEIGHBOUR: 'it returns false'. Refute it at one input. -/
def respBackWrong : ChangeSpec := { name := "respBack", fn := fun _ => fun
  | [d1, d2] => { results := [.lit (.bool false)], args := [d1, d2] }
  | _ => none }
def RespBackWrongFalsely : Prop := respBackRow.holds Tryd.pinned (OpenSpec.ofChange respBackWrong)

/- THE SECOND FORM. 'bulk': how many values and letters a reading holds, each counted each time it is reached (what is shared counts as often as it is met; a slice's spare places count too). A statement '..UptoSaid' is the law's where the arguments, and the package variables that the reading takes, are together of bulk at most 1048576: NARROWER than '..Said'. Prove '..Said' where nothing that the law and all that it calls make is longer than what came in: it says more and counts as full. Else prove '..UptoSaid'. A law counts once. -/
mutual
def uptoBulk {H : Type} : DataW H → Nat
  | .lit (.string bytes) => bytes.length + 1
  | .lit _ => 1
  | .nil => 1
  | .ptr d => uptoBulk d + 1
  | .slice elems spare => uptoBulkAll elems + uptoBulkAll spare + 1
  | .agg parts => uptoBulkAll parts + 1
  | .iface _ d => uptoBulk d + 1
  | .map entries => uptoBulkEntries entries + 1
  | .held _ => 1
def uptoBulkAll {H : Type} : List (DataW H) → Nat
  | [] => 0
  | d :: r => uptoBulk d + uptoBulkAll r
def uptoBulkEntries {H : Type} : List (Lit × DataW H) → Nat
  | [] => 0
  | x :: r => uptoBulkEntry x + uptoBulkEntries r
def uptoBulkEntry {H : Type} : Lit × DataW H → Nat
  | (.string bytes, d) => bytes.length + uptoBulk d + 1
  | (_, d) => uptoBulk d + 1
 end
def uptoSmall : (H : Type) → List (DataW H) → Bool := fun _ ds => decide (uptoBulkAll ds ≤ 1048576)
def OpenSpec.upto (s : _root_.Go.ChangeSpec) : _root_.Go.OpenSpec := { _root_.Go.OpenSpec.ofChange s with cond := some uptoSmall }

/-- 'tallboylaw18.RespLines', WHERE WHAT IT READS IS OF BULK AT MOST 1048576: true; the input reads as it did. -/
def respLinesUptoRow : OpenClaim := { program := "ytjdnpgdedbegfaadoor", sum := "aa2027db8719a9b16fbf2edb7916d38c7033573fce70b7ed25666d0cf15b51b0", func := "tallboy/tallboylaw18.RespLines", spec := "respLines", inPlace := ["internal/bytealg.CountString", "internal/bytealg.IndexByteString", "internal/bytealg.IndexString", "internal/abi.NoEscape", "internal/bytealg.MakeNoZero"], recurses := true, named := ["internal/bytealg.MaxLen", "unicode/utf8.first", "unicode/utf8.acceptRanges"], apart := false, laid := [("unicode/utf8.acceptRanges", laid_unicode_utf8_acceptRanges), ("unicode/utf8.first", laid_unicode_utf8_first)], narrowed := true }
def RespLinesUptoSaid : Prop := respLinesUptoRow.holds Tryd.pinned (OpenSpec.upto respLinesSpec)

/-- 'tallboylaw18.RespRows', WHERE WHAT IT READS IS OF BULK AT MOST 1048576: true; the input reads as it did. -/
def respRowsUptoRow : OpenClaim := { program := "ytjdnpgdedbegfaadoor", sum := "aa2027db8719a9b16fbf2edb7916d38c7033573fce70b7ed25666d0cf15b51b0", func := "tallboy/tallboylaw18.RespRows", spec := "respRows", inPlace := ["internal/bytealg.CountString", "internal/bytealg.IndexByteString", "internal/bytealg.IndexString", "internal/abi.NoEscape", "internal/bytealg.MakeNoZero"], recurses := true, named := ["internal/bytealg.MaxLen", "unicode/utf8.first", "unicode/utf8.acceptRanges"], apart := false, laid := [("unicode/utf8.acceptRanges", laid_unicode_utf8_acceptRanges), ("unicode/utf8.first", laid_unicode_utf8_first)], narrowed := true }
def RespRowsUptoSaid : Prop := respRowsUptoRow.holds Tryd.pinned (OpenSpec.upto respRowsSpec)

/-- 'tallboylaw18.RespFlat', WHERE WHAT IT READS IS OF BULK AT MOST 1048576: true; the input reads as it did. -/
def respFlatUptoRow : OpenClaim := { program := "ytjdnpgdedbegfaadoor", sum := "aa2027db8719a9b16fbf2edb7916d38c7033573fce70b7ed25666d0cf15b51b0", func := "tallboy/tallboylaw18.RespFlat", spec := "respFlat", inPlace := ["internal/bytealg.CountString", "internal/bytealg.IndexByteString", "internal/bytealg.IndexString", "internal/abi.NoEscape", "internal/bytealg.MakeNoZero"], recurses := true, named := ["internal/bytealg.MaxLen", "unicode/utf8.first", "unicode/utf8.acceptRanges"], apart := false, laid := [("unicode/utf8.acceptRanges", laid_unicode_utf8_acceptRanges), ("unicode/utf8.first", laid_unicode_utf8_first)], narrowed := true }
def RespFlatUptoSaid : Prop := respFlatUptoRow.holds Tryd.pinned (OpenSpec.upto respFlatSpec)

/-- 'tallboylaw18.RespNumbers', WHERE WHAT IT READS IS OF BULK AT MOST 1048576: true; the input reads as it did. -/
def respNumbersUptoRow : OpenClaim := { program := "ytjdnpgdedbegfaadoor", sum := "aa2027db8719a9b16fbf2edb7916d38c7033573fce70b7ed25666d0cf15b51b0", func := "tallboy/tallboylaw18.RespNumbers", spec := "respNumbers", inPlace := ["internal/bytealg.CountString", "internal/bytealg.IndexByteString", "internal/bytealg.IndexString", "internal/abi.NoEscape", "internal/bytealg.MakeNoZero"], recurses := true, named := ["internal/bytealg.MaxLen", "unicode/utf8.first", "unicode/utf8.acceptRanges"], apart := false, laid := [("unicode/utf8.acceptRanges", laid_unicode_utf8_acceptRanges), ("unicode/utf8.first", laid_unicode_utf8_first)], narrowed := true }
def RespNumbersUptoSaid : Prop := respNumbersUptoRow.holds Tryd.pinned (OpenSpec.upto respNumbersSpec)

/-- 'tallboylaw18.RespBack', WHERE WHAT IT READS IS OF BULK AT MOST 1048576: true; the input reads as it did. -/
def respBackUptoRow : OpenClaim := { program := "ytjdnpgdedbegfaadoor", sum := "aa2027db8719a9b16fbf2edb7916d38c7033573fce70b7ed25666d0cf15b51b0", func := "tallboy/tallboylaw18.RespBack", spec := "respBack", inPlace := ["internal/bytealg.CountString", "internal/bytealg.IndexByteString", "internal/bytealg.IndexString", "internal/abi.NoEscape", "internal/bytealg.MakeNoZero"], recurses := true, named := ["internal/bytealg.MaxLen", "unicode/utf8.first", "unicode/utf8.acceptRanges"], apart := false, laid := [("unicode/utf8.acceptRanges", laid_unicode_utf8_acceptRanges), ("unicode/utf8.first", laid_unicode_utf8_first)], narrowed := true }
def RespBackUptoSaid : Prop := respBackUptoRow.holds Tryd.pinned (OpenSpec.upto respBackSpec)

end Rows
end Go.Proofs.YtjdnpgdedbegfaaDoor
