/-
  No cell of these rows narrows 'for every input' (looked for: loops, veiled, ifaces, maps, wideKeys, modest, calm, conditions, laid).
  DERIVED. THE GIVEN ROWS OF THIS SEAT. 11 by the template 'for every input the law returns true; each argument reads behind the call as it read before'; 0 by the template 'total and deterministic' (their statements: YtppfmgdooflllaaTotals.lean).
  GIVEN WITH THE SEED: the statements are not yours to turn. If you find one false, say at which input.
  Laid BY PROGRAM, IN A SANDBOX (cutbox-rows.mjs): the forced cells as the released guide's own fill.sh prints them over the translation 4881134a5ef78fa3… (all of the seat's roots in one cut). By AI agents, Wed Nov 11 2026. No macro, syntax, notation, axiom, sorry.
-/
import Derived.Test.YtppfmgdooflllaaChecked
import GoSem.Claim
import GoSem.ClaimJoined
import GoSem.ClaimMapViews
import Derived.JoinedTies
import Derived.KernelRfl
namespace Go.Proofs.Ytppfmgdooflllaa
/- THE CELL 'sum', in the pinned program and in every row, IS THE sha256 OF THE DUMP (.gsa) THAT YtppfmgdooflllaaProg.lean LOADS. Nothing in Lean hashes anything: it is a label: what it is worth is what the hold of that sum in a sandbox is worth. -/
noncomputable def Try.pinned : Pinned := { name := "ytppfmgdooflllaa", sum := "4881134a5ef78fa3851f3b6e9997fc9b8220ce3decb6f2d13e4cacc729db6a86", checked := Try.checked }
namespace Rows
def none {H : Type} : Left H := { results := [], args := [] }

/-- 'tallboylaw2.NumBack': WHATEVER THE INPUT: true; the input reads as it did. -/
def numBackSpec : ChangeSpec := { name := "numBack", fn := fun _ => fun
  | [d1, d2, d3] => { results := [.lit (.bool true)], args := [d1, d2, d3] }
  | _ => none }
def numBackRow : OpenClaim := { program := "ytppfmgdooflllaa", sum := "4881134a5ef78fa3851f3b6e9997fc9b8220ce3decb6f2d13e4cacc729db6a86", func := "tallboy/tallboylaw2.NumBack", spec := "numBack", apart := false }
def NumBackSaid : Prop := numBackRow.holds Try.pinned (OpenSpec.ofChange numBackSpec)

/-- ITS FALSE NEIGHBOUR: 'it returns false'. Refute it at one input. -/
def numBackWrong : ChangeSpec := { name := "numBack", fn := fun _ => fun
  | [d1, d2, d3] => { results := [.lit (.bool false)], args := [d1, d2, d3] }
  | _ => none }
def NumBackWrongFalsely : Prop := numBackRow.holds Try.pinned (OpenSpec.ofChange numBackWrong)

/-- 'tallboylaw2.NumAdds': WHATEVER THE INPUT: true; the input reads as it did. -/
def numAddsSpec : ChangeSpec := { name := "numAdds", fn := fun _ => fun
  | [d1, d2, d3] => { results := [.lit (.bool true)], args := [d1, d2, d3] }
  | _ => none }
def numAddsRow : OpenClaim := { program := "ytppfmgdooflllaa", sum := "4881134a5ef78fa3851f3b6e9997fc9b8220ce3decb6f2d13e4cacc729db6a86", func := "tallboy/tallboylaw2.NumAdds", spec := "numAdds", apart := false }
def NumAddsSaid : Prop := numAddsRow.holds Try.pinned (OpenSpec.ofChange numAddsSpec)

/-- ITS FALSE NEIGHBOUR: 'it returns false'. Refute it at one input. -/
def numAddsWrong : ChangeSpec := { name := "numAdds", fn := fun _ => fun
  | [d1, d2, d3] => { results := [.lit (.bool false)], args := [d1, d2, d3] }
  | _ => none }
def NumAddsWrongFalsely : Prop := numAddsRow.holds Try.pinned (OpenSpec.ofChange numAddsWrong)

/-- 'tallboylaw2.NumDigits': WHATEVER THE INPUT: true; the input reads as it did. -/
def numDigitsSpec : ChangeSpec := { name := "numDigits", fn := fun _ => fun
  | [d1, d2] => { results := [.lit (.bool true)], args := [d1, d2] }
  | _ => none }
def numDigitsRow : OpenClaim := { program := "ytppfmgdooflllaa", sum := "4881134a5ef78fa3851f3b6e9997fc9b8220ce3decb6f2d13e4cacc729db6a86", func := "tallboy/tallboylaw2.NumDigits", spec := "numDigits", apart := false }
def NumDigitsSaid : Prop := numDigitsRow.holds Try.pinned (OpenSpec.ofChange numDigitsSpec)

/-- ITS FALSE NEIGHBOUR: 'it returns false'. Refute it at one input. -/
def numDigitsWrong : ChangeSpec := { name := "numDigits", fn := fun _ => fun
  | [d1, d2] => { results := [.lit (.bool false)], args := [d1, d2] }
  | _ => none }
def NumDigitsWrongFalsely : Prop := numDigitsRow.holds Try.pinned (OpenSpec.ofChange numDigitsWrong)

/-- 'tallboylaw2.NumNumbers': WHATEVER THE INPUT: true; the input reads as it did. -/
def numNumbersSpec : ChangeSpec := { name := "numNumbers", fn := fun _ => fun
  | [] => { results := [.lit (.bool true)], args := [] }
  | _ => none }
def numNumbersRow : OpenClaim := { program := "ytppfmgdooflllaa", sum := "4881134a5ef78fa3851f3b6e9997fc9b8220ce3decb6f2d13e4cacc729db6a86", func := "tallboy/tallboylaw2.NumNumbers", spec := "numNumbers", apart := false }
def NumNumbersSaid : Prop := numNumbersRow.holds Try.pinned (OpenSpec.ofChange numNumbersSpec)

/-- ITS FALSE NEIGHBOUR: 'it returns false'. Refute it at one input. -/
def numNumbersWrong : ChangeSpec := { name := "numNumbers", fn := fun _ => fun
  | [] => { results := [.lit (.bool false)], args := [] }
  | _ => none }
def NumNumbersWrongFalsely : Prop := numNumbersRow.holds Try.pinned (OpenSpec.ofChange numNumbersWrong)

/-- 'tallboylaw2.NumTells': WHATEVER THE INPUT: true; the input reads as it did. -/
def numTellsSpec : ChangeSpec := { name := "numTells", fn := fun _ => fun
  | [d1, d2, d3, d4] => { results := [.lit (.bool true)], args := [d1, d2, d3, d4] }
  | _ => none }
def numTellsRow : OpenClaim := { program := "ytppfmgdooflllaa", sum := "4881134a5ef78fa3851f3b6e9997fc9b8220ce3decb6f2d13e4cacc729db6a86", func := "tallboy/tallboylaw2.NumTells", spec := "numTells", apart := false }
def NumTellsSaid : Prop := numTellsRow.holds Try.pinned (OpenSpec.ofChange numTellsSpec)

/-- ITS FALSE NEIGHBOUR: 'it returns false'. Refute it at one input. -/
def numTellsWrong : ChangeSpec := { name := "numTells", fn := fun _ => fun
  | [d1, d2, d3, d4] => { results := [.lit (.bool false)], args := [d1, d2, d3, d4] }
  | _ => none }
def NumTellsWrongFalsely : Prop := numTellsRow.holds Try.pinned (OpenSpec.ofChange numTellsWrong)

/-- 'tallboylaw11.TextRanges': WHATEVER THE INPUT: true; the input reads as it did. -/
def textRangesSpec : ChangeSpec := { name := "textRanges", fn := fun _ => fun
  | [d1, d2, d3] => { results := [.lit (.bool true)], args := [d1, d2, d3] }
  | _ => none }
def textRangesRow : OpenClaim := { program := "ytppfmgdooflllaa", sum := "4881134a5ef78fa3851f3b6e9997fc9b8220ce3decb6f2d13e4cacc729db6a86", func := "tallboy/tallboylaw11.TextRanges", spec := "textRanges", apart := false }
def TextRangesSaid : Prop := textRangesRow.holds Try.pinned (OpenSpec.ofChange textRangesSpec)

/-- ITS FALSE NEIGHBOUR: 'it returns false'. Refute it at one input. -/
def textRangesWrong : ChangeSpec := { name := "textRanges", fn := fun _ => fun
  | [d1, d2, d3] => { results := [.lit (.bool false)], args := [d1, d2, d3] }
  | _ => none }
def TextRangesWrongFalsely : Prop := textRangesRow.holds Try.pinned (OpenSpec.ofChange textRangesWrong)

/-- 'tallboylaw11.TextIncrs': WHATEVER THE INPUT: true; the input reads as it did. -/
def textIncrsSpec : ChangeSpec := { name := "textIncrs", fn := fun _ => fun
  | [d1, d2] => { results := [.lit (.bool true)], args := [d1, d2] }
  | _ => none }
def textIncrsRow : OpenClaim := { program := "ytppfmgdooflllaa", sum := "4881134a5ef78fa3851f3b6e9997fc9b8220ce3decb6f2d13e4cacc729db6a86", func := "tallboy/tallboylaw11.TextIncrs", spec := "textIncrs", apart := false }
def TextIncrsSaid : Prop := textIncrsRow.holds Try.pinned (OpenSpec.ofChange textIncrsSpec)

/-- ITS FALSE NEIGHBOUR: 'it returns false'. Refute it at one input. -/
def textIncrsWrong : ChangeSpec := { name := "textIncrs", fn := fun _ => fun
  | [d1, d2] => { results := [.lit (.bool false)], args := [d1, d2] }
  | _ => none }
def TextIncrsWrongFalsely : Prop := textIncrsRow.holds Try.pinned (OpenSpec.ofChange textIncrsWrong)

/-- 'tallboylaw11.TextCounts': WHATEVER THE INPUT: true; the input reads as it did. -/
def textCountsSpec : ChangeSpec := { name := "textCounts", fn := fun _ => fun
  | [d1, d2] => { results := [.lit (.bool true)], args := [d1, d2] }
  | _ => none }
def textCountsRow : OpenClaim := { program := "ytppfmgdooflllaa", sum := "4881134a5ef78fa3851f3b6e9997fc9b8220ce3decb6f2d13e4cacc729db6a86", func := "tallboy/tallboylaw11.TextCounts", spec := "textCounts", apart := false }
def TextCountsSaid : Prop := textCountsRow.holds Try.pinned (OpenSpec.ofChange textCountsSpec)

/-- ITS FALSE NEIGHBOUR: 'it returns false'. Refute it at one input. -/
def textCountsWrong : ChangeSpec := { name := "textCounts", fn := fun _ => fun
  | [d1, d2] => { results := [.lit (.bool false)], args := [d1, d2] }
  | _ => none }
def TextCountsWrongFalsely : Prop := textCountsRow.holds Try.pinned (OpenSpec.ofChange textCountsWrong)

/-- 'tallboylaw11.TextBits': WHATEVER THE INPUT: true; the input reads as it did. -/
def textBitsSpec : ChangeSpec := { name := "textBits", fn := fun _ => fun
  | [d1, d2, d3, d4] => { results := [.lit (.bool true)], args := [d1, d2, d3, d4] }
  | _ => none }
def textBitsRow : OpenClaim := { program := "ytppfmgdooflllaa", sum := "4881134a5ef78fa3851f3b6e9997fc9b8220ce3decb6f2d13e4cacc729db6a86", func := "tallboy/tallboylaw11.TextBits", spec := "textBits", apart := false }
def TextBitsSaid : Prop := textBitsRow.holds Try.pinned (OpenSpec.ofChange textBitsSpec)

/-- ITS FALSE NEIGHBOUR: 'it returns false'. Refute it at one input. -/
def textBitsWrong : ChangeSpec := { name := "textBits", fn := fun _ => fun
  | [d1, d2, d3, d4] => { results := [.lit (.bool false)], args := [d1, d2, d3, d4] }
  | _ => none }
def TextBitsWrongFalsely : Prop := textBitsRow.holds Try.pinned (OpenSpec.ofChange textBitsWrong)

/-- 'tallboylaw11.TextNumbers': WHATEVER THE INPUT: true; the input reads as it did. -/
def textNumbersSpec : ChangeSpec := { name := "textNumbers", fn := fun _ => fun
  | [] => { results := [.lit (.bool true)], args := [] }
  | _ => none }
def textNumbersRow : OpenClaim := { program := "ytppfmgdooflllaa", sum := "4881134a5ef78fa3851f3b6e9997fc9b8220ce3decb6f2d13e4cacc729db6a86", func := "tallboy/tallboylaw11.TextNumbers", spec := "textNumbers", apart := false }
def TextNumbersSaid : Prop := textNumbersRow.holds Try.pinned (OpenSpec.ofChange textNumbersSpec)

/-- ITS FALSE NEIGHBOUR: 'it returns false'. Refute it at one input. -/
def textNumbersWrong : ChangeSpec := { name := "textNumbers", fn := fun _ => fun
  | [] => { results := [.lit (.bool false)], args := [] }
  | _ => none }
def TextNumbersWrongFalsely : Prop := textNumbersRow.holds Try.pinned (OpenSpec.ofChange textNumbersWrong)

/-- 'tallboylaw11.TextTells': WHATEVER THE INPUT: true; the input reads as it did. -/
def textTellsSpec : ChangeSpec := { name := "textTells", fn := fun _ => fun
  | [d1, d2, d3, d4, d5, d6] => { results := [.lit (.bool true)], args := [d1, d2, d3, d4, d5, d6] }
  | _ => none }
def textTellsRow : OpenClaim := { program := "ytppfmgdooflllaa", sum := "4881134a5ef78fa3851f3b6e9997fc9b8220ce3decb6f2d13e4cacc729db6a86", func := "tallboy/tallboylaw11.TextTells", spec := "textTells", apart := false }
def TextTellsSaid : Prop := textTellsRow.holds Try.pinned (OpenSpec.ofChange textTellsSpec)

/-- ITS FALSE NEIGHBOUR: 'it returns false'. Refute it at one input. -/
def textTellsWrong : ChangeSpec := { name := "textTells", fn := fun _ => fun
  | [d1, d2, d3, d4, d5, d6] => { results := [.lit (.bool false)], args := [d1, d2, d3, d4, d5, d6] }
  | _ => none }
def TextTellsWrongFalsely : Prop := textTellsRow.holds Try.pinned (OpenSpec.ofChange textTellsWrong)

/- THE SECOND FORM. 'bulk': how many values and letters a reading holds, each counted each time it is reached (what is shared counts as often as it is met; a slice's spare places count too). A statement '..UptoSaid' is the law's where the arguments, and the package variables that the reading takes, are together of bulk at most 1048576: NARROWER than '..Said'. Prove '..Said' where nothing that the law and all that it calls make is longer than what came in: it says more and counts as full. Else prove '..UptoSaid'. A law counts once. -/
mutual
def uptoBulk {H : Type} : DataW H → Nat
  | .lit (.string bytes) => bytes.length + 1
  | .lit _ => 1
  | .nil => 1
  | .ptr d => uptoBulk d + 1
  | .slice elems spare => uptoBulkAll elems + uptoBulkAll spare + 1
  | .agg parts => uptoBulkAll parts + 1
  | .iface _ d => uptoBulk d + 1
  | .map entries => uptoBulkEntries entries + 1
  | .held _ => 1
def uptoBulkAll {H : Type} : List (DataW H) → Nat
  | [] => 0
  | d :: r => uptoBulk d + uptoBulkAll r
def uptoBulkEntries {H : Type} : List (Lit × DataW H) → Nat
  | [] => 0
  | x :: r => uptoBulkEntry x + uptoBulkEntries r
def uptoBulkEntry {H : Type} : Lit × DataW H → Nat
  | (.string bytes, d) => bytes.length + uptoBulk d + 1
  | (_, d) => uptoBulk d + 1
 end
def uptoSmall : (H : Type) → List (DataW H) → Bool := fun _ ds => decide (uptoBulkAll ds ≤ 1048576)
def OpenSpec.upto (s : _root_.Go.ChangeSpec) : _root_.Go.OpenSpec := { _root_.Go.OpenSpec.ofChange s with cond := some uptoSmall }

/-- 'tallboylaw2.NumBack', WHERE WHAT IT READS IS OF BULK AT MOST 1048576: true; the input reads as it did. -/
def numBackUptoRow : OpenClaim := { program := "ytppfmgdooflllaa", sum := "4881134a5ef78fa3851f3b6e9997fc9b8220ce3decb6f2d13e4cacc729db6a86", func := "tallboy/tallboylaw2.NumBack", spec := "numBack", apart := false, narrowed := true }
def NumBackUptoSaid : Prop := numBackUptoRow.holds Try.pinned (OpenSpec.upto numBackSpec)

/-- 'tallboylaw2.NumAdds', WHERE WHAT IT READS IS OF BULK AT MOST 1048576: true; the input reads as it did. -/
def numAddsUptoRow : OpenClaim := { program := "ytppfmgdooflllaa", sum := "4881134a5ef78fa3851f3b6e9997fc9b8220ce3decb6f2d13e4cacc729db6a86", func := "tallboy/tallboylaw2.NumAdds", spec := "numAdds", apart := false, narrowed := true }
def NumAddsUptoSaid : Prop := numAddsUptoRow.holds Try.pinned (OpenSpec.upto numAddsSpec)

/-- 'tallboylaw2.NumDigits', WHERE WHAT IT READS IS OF BULK AT MOST 1048576: true; the input reads as it did. -/
def numDigitsUptoRow : OpenClaim := { program := "ytppfmgdooflllaa", sum := "4881134a5ef78fa3851f3b6e9997fc9b8220ce3decb6f2d13e4cacc729db6a86", func := "tallboy/tallboylaw2.NumDigits", spec := "numDigits", apart := false, narrowed := true }
def NumDigitsUptoSaid : Prop := numDigitsUptoRow.holds Try.pinned (OpenSpec.upto numDigitsSpec)

/-- 'tallboylaw2.NumNumbers', WHERE WHAT IT READS IS OF BULK AT MOST 1048576: true; the input reads as it did. -/
def numNumbersUptoRow : OpenClaim := { program := "ytppfmgdooflllaa", sum := "4881134a5ef78fa3851f3b6e9997fc9b8220ce3decb6f2d13e4cacc729db6a86", func := "tallboy/tallboylaw2.NumNumbers", spec := "numNumbers", apart := false, narrowed := true }
def NumNumbersUptoSaid : Prop := numNumbersUptoRow.holds Try.pinned (OpenSpec.upto numNumbersSpec)

/-- 'tallboylaw2.NumTells', WHERE WHAT IT READS IS OF BULK AT MOST 1048576: true; the input reads as it did. -/
def numTellsUptoRow : OpenClaim := { program := "ytppfmgdooflllaa", sum := "4881134a5ef78fa3851f3b6e9997fc9b8220ce3decb6f2d13e4cacc729db6a86", func := "tallboy/tallboylaw2.NumTells", spec := "numTells", apart := false, narrowed := true }
def NumTellsUptoSaid : Prop := numTellsUptoRow.holds Try.pinned (OpenSpec.upto numTellsSpec)

/-- 'tallboylaw11.TextRanges', WHERE WHAT IT READS IS OF BULK AT MOST 1048576: true; the input reads as it did. -/
def textRangesUptoRow : OpenClaim := { program := "ytppfmgdooflllaa", sum := "4881134a5ef78fa3851f3b6e9997fc9b8220ce3decb6f2d13e4cacc729db6a86", func := "tallboy/tallboylaw11.TextRanges", spec := "textRanges", apart := false, narrowed := true }
def TextRangesUptoSaid : Prop := textRangesUptoRow.holds Try.pinned (OpenSpec.upto textRangesSpec)

/-- 'tallboylaw11.TextIncrs', WHERE WHAT IT READS IS OF BULK AT MOST 1048576: true; the input reads as it did. -/
def textIncrsUptoRow : OpenClaim := { program := "ytppfmgdooflllaa", sum := "4881134a5ef78fa3851f3b6e9997fc9b8220ce3decb6f2d13e4cacc729db6a86", func := "tallboy/tallboylaw11.TextIncrs", spec := "textIncrs", apart := false, narrowed := true }
def TextIncrsUptoSaid : Prop := textIncrsUptoRow.holds Try.pinned (OpenSpec.upto textIncrsSpec)

/-- 'tallboylaw11.TextCounts', WHERE WHAT IT READS IS OF BULK AT MOST 1048576: true; the input reads as it did. -/
def textCountsUptoRow : OpenClaim := { program := "ytppfmgdooflllaa", sum := "4881134a5ef78fa3851f3b6e9997fc9b8220ce3decb6f2d13e4cacc729db6a86", func := "tallboy/tallboylaw11.TextCounts", spec := "textCounts", apart := false, narrowed := true }
def TextCountsUptoSaid : Prop := textCountsUptoRow.holds Try.pinned (OpenSpec.upto textCountsSpec)

/-- 'tallboylaw11.TextBits', WHERE WHAT IT READS IS OF BULK AT MOST 1048576: true; the input reads as it did. -/
def textBitsUptoRow : OpenClaim := { program := "ytppfmgdooflllaa", sum := "4881134a5ef78fa3851f3b6e9997fc9b8220ce3decb6f2d13e4cacc729db6a86", func := "tallboy/tallboylaw11.TextBits", spec := "textBits", apart := false, narrowed := true }
def TextBitsUptoSaid : Prop := textBitsUptoRow.holds Try.pinned (OpenSpec.upto textBitsSpec)

/-- 'tallboylaw11.TextNumbers', WHERE WHAT IT READS IS OF BULK AT MOST 1048576: true; the input reads as it did. -/
def textNumbersUptoRow : OpenClaim := { program := "ytppfmgdooflllaa", sum := "4881134a5ef78fa3851f3b6e9997fc9b8220ce3decb6f2d13e4cacc729db6a86", func := "tallboy/tallboylaw11.TextNumbers", spec := "textNumbers", apart := false, narrowed := true }
def TextNumbersUptoSaid : Prop := textNumbersUptoRow.holds Try.pinned (OpenSpec.upto textNumbersSpec)

/-- 'tallboylaw11.TextTells', WHERE WHAT IT READS IS OF BULK AT MOST 1048576: true; the input reads as it did. -/
def textTellsUptoRow : OpenClaim := { program := "ytppfmgdooflllaa", sum := "4881134a5ef78fa3851f3b6e9997fc9b8220ce3decb6f2d13e4cacc729db6a86", func := "tallboy/tallboylaw11.TextTells", spec := "textTells", apart := false, narrowed := true }
def TextTellsUptoSaid : Prop := textTellsUptoRow.holds Try.pinned (OpenSpec.upto textTellsSpec)

end Rows
end Go.Proofs.Ytppfmgdooflllaa
