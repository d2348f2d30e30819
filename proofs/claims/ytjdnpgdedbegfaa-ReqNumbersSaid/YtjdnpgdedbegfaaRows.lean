/-
  No cell of these rows narrows 'for every input' (looked for: loops, veiled, ifaces, maps, wideKeys, modest, calm, conditions, laid).
  DERIVED. THE GIVEN ROWS OF THIS SEAT. 5 by the template 'for every input the law returns true; each argument reads behind the call as it read before'; 0 by the template 'total and deterministic' (their statements: YtjdnpgdedbegfaaTotals.lean).
  GIVEN WITH THE SEED: the statements are not yours to turn. If you find one false, say at which input.
  Laid BY PROGRAM, IN A SANDBOX (cutbox-rows.mjs): the forced cells as the released guide's own fill.sh prints them over the translation f988f4b82890967e… (all of the seat's roots in one cut). By AI agents, Wed Nov 11 2026. No macro, syntax, notation, axiom, sorry.
-/
import Derived.Test.YtjdnpgdedbegfaaChecked
import GoSem.Claim
import GoSem.ClaimJoined
import GoSem.ClaimMapViews
import Derived.JoinedTies
import Derived.KernelRfl
namespace Go.Proofs.Ytjdnpgdedbegfaa
/- THE CELL 'sum', in the pinned program and in every row, IS THE sha256 OF THE DUMP (.gsa) THAT YtjdnpgdedbegfaaProg.lean LOADS. Nothing in Lean hashes anything: it is a label: what it is worth is what the hold of that sum in a sandbox is worth. -/
noncomputable def Try.pinned : Pinned := { name := "ytjdnpgdedbegfaa", sum := "f988f4b82890967e908c0825c69582621aca4fb28520d3c05d8ed2e0160c6d7a", checked := Try.checked }
namespace Rows
def none {H : Type} : Left H := { results := [], args := [] }

/-- 'tallboylaw19.ReqPieces': WHATEVER THE INPUT: true; the input reads as it did. -/
def reqPiecesSpec : ChangeSpec := { name := "reqPieces", fn := fun _ => fun
  | [d1, d2, d3] => { results := [.lit (.bool true)], args := [d1, d2, d3] }
  | _ => none }
def reqPiecesRow : OpenClaim := { program := "ytjdnpgdedbegfaa", sum := "f988f4b82890967e908c0825c69582621aca4fb28520d3c05d8ed2e0160c6d7a", func := "tallboy/tallboylaw19.ReqPieces", spec := "reqPieces", inPlace := ["internal/bytealg.IndexByte", "internal/bytealg.Index"], unfollowed := true, recurses := true, named := ["internal/bytealg.MaxLen"], apart := false }
def ReqPiecesSaid : Prop := reqPiecesRow.holds Try.pinned (OpenSpec.ofChange reqPiecesSpec)

/-- ITS FALSE NEIGHBOUR: 'it returns false'. Refute it at one input. -/
def reqPiecesWrong : ChangeSpec := { name := "reqPieces", fn := fun _ => fun
  | [d1, d2, d3] => { results := [.lit (.bool false)], args := [d1, d2, d3] }
  | _ => none }
def ReqPiecesWrongFalsely : Prop := reqPiecesRow.holds Try.pinned (OpenSpec.ofChange reqPiecesWrong)

/-- 'tallboylaw19.ReqQuotes': WHATEVER THE INPUT: true; the input reads as it did. -/
def reqQuotesSpec : ChangeSpec := { name := "reqQuotes", fn := fun _ => fun
  | [d1, d2] => { results := [.lit (.bool true)], args := [d1, d2] }
  | _ => none }
def reqQuotesRow : OpenClaim := { program := "ytjdnpgdedbegfaa", sum := "f988f4b82890967e908c0825c69582621aca4fb28520d3c05d8ed2e0160c6d7a", func := "tallboy/tallboylaw19.ReqQuotes", spec := "reqQuotes", inPlace := ["internal/bytealg.IndexByte", "internal/bytealg.Index"], unfollowed := true, recurses := true, named := ["internal/bytealg.MaxLen"], apart := false }
def ReqQuotesSaid : Prop := reqQuotesRow.holds Try.pinned (OpenSpec.ofChange reqQuotesSpec)

/-- ITS FALSE NEIGHBOUR: 'it returns false'. Refute it at one input. -/
def reqQuotesWrong : ChangeSpec := { name := "reqQuotes", fn := fun _ => fun
  | [d1, d2] => { results := [.lit (.bool false)], args := [d1, d2] }
  | _ => none }
def ReqQuotesWrongFalsely : Prop := reqQuotesRow.holds Try.pinned (OpenSpec.ofChange reqQuotesWrong)

/-- 'tallboylaw19.ReqNumbers': WHATEVER THE INPUT: true; the input reads as it did. -/
def reqNumbersSpec : ChangeSpec := { name := "reqNumbers", fn := fun _ => fun
  | [] => { results := [.lit (.bool true)], args := [] }
  | _ => none }
def reqNumbersRow : OpenClaim := { program := "ytjdnpgdedbegfaa", sum := "f988f4b82890967e908c0825c69582621aca4fb28520d3c05d8ed2e0160c6d7a", func := "tallboy/tallboylaw19.ReqNumbers", spec := "reqNumbers", inPlace := ["internal/bytealg.IndexByte", "internal/bytealg.Index"], unfollowed := true, recurses := true, named := ["internal/bytealg.MaxLen"], apart := false }
def ReqNumbersSaid : Prop := reqNumbersRow.holds Try.pinned (OpenSpec.ofChange reqNumbersSpec)

/-- ITS FALSE NEIGHBOUR: 'it returns false'. Refute it at one input. -/
def reqNumbersWrong : ChangeSpec := { name := "reqNumbers", fn := fun _ => fun
  | [] => { results := [.lit (.bool false)], args := [] }
  | _ => none }
def ReqNumbersWrongFalsely : Prop := reqNumbersRow.holds Try.pinned (OpenSpec.ofChange reqNumbersWrong)

/-- 'tallboylaw19.ReqBack': WHATEVER THE INPUT: true; the input reads as it did. -/
def reqBackSpec : ChangeSpec := { name := "reqBack", fn := fun _ => fun
  | [d] => { results := [.lit (.bool true)], args := [d] }
  | _ => none }
def reqBackRow : OpenClaim := { program := "ytjdnpgdedbegfaa", sum := "f988f4b82890967e908c0825c69582621aca4fb28520d3c05d8ed2e0160c6d7a", func := "tallboy/tallboylaw19.ReqBack", spec := "reqBack", inPlace := ["internal/bytealg.IndexByte", "internal/bytealg.Index"], unfollowed := true, recurses := true, named := ["internal/bytealg.MaxLen"], apart := false }
def ReqBackSaid : Prop := reqBackRow.holds Try.pinned (OpenSpec.ofChange reqBackSpec)

/-- ITS FALSE NEIGHBOUR: 'it returns false'. Refute it at one input. -/
def reqBackWrong : ChangeSpec := { name := "reqBack", fn := fun _ => fun
  | [d] => { results := [.lit (.bool false)], args := [d] }
  | _ => none }
def ReqBackWrongFalsely : Prop := reqBackRow.holds Try.pinned (OpenSpec.ofChange reqBackWrong)

/-- 'tallboylaw19.ReqParts': WHATEVER THE INPUT: true; the input reads as it did. -/
def reqPartsSpec : ChangeSpec := { name := "reqParts", fn := fun _ => fun
  | [d1, d2, d3] => { results := [.lit (.bool true)], args := [d1, d2, d3] }
  | _ => none }
def reqPartsRow : OpenClaim := { program := "ytjdnpgdedbegfaa", sum := "f988f4b82890967e908c0825c69582621aca4fb28520d3c05d8ed2e0160c6d7a", func := "tallboy/tallboylaw19.ReqParts", spec := "reqParts", inPlace := ["internal/bytealg.IndexByte", "internal/bytealg.Index"], unfollowed := true, recurses := true, named := ["internal/bytealg.MaxLen"], apart := false }
def ReqPartsSaid : Prop := reqPartsRow.holds Try.pinned (OpenSpec.ofChange reqPartsSpec)

/-- ITS FALSE NEIGHBOUR: 'it returns false'. Refute it at one input. -/
def reqPartsWrong : ChangeSpec := { name := "reqParts", fn := fun _ => fun
  | [d1, d2, d3] => { results := [.lit (.bool false)], args := [d1, d2, d3] }
  | _ => none }
def ReqPartsWrongFalsely : Prop := reqPartsRow.holds Try.pinned (OpenSpec.ofChange reqPartsWrong)

/- THE SECOND FORM. 'bulk': how many values and letters a reading holds, each counted each time it is reached (what is shared counts as often as it is met; a slice's spare places count too). A statement '..UptoSaid' is the law's where the arguments, and the package variables that the reading takes, are together of bulk at most 1048576: NARROWER than '..Said'. Prove '..Said' where nothing that the law and all that it calls make is longer than what came in: it says more and counts as full. Else prove '..UptoSaid'. A law counts once. -/
mutual
def uptoBulk {H : Type} : DataW H → Nat
  | .lit (.string bytes) => bytes.length + 1
  | .lit _ => 1
  | .nil => 1
  | .ptr d => uptoBulk d + 1
  | .slice elems spare => uptoBulkAll elems + uptoBulkAll spare + 1
  | .agg parts => uptoBulkAll parts + 1
  | .iface _ d => uptoBulk d + 1
  | .map entries => uptoBulkEntries entries + 1
  | .held _ => 1
def uptoBulkAll {H : Type} : List (DataW H) → Nat
  | [] => 0
  | d :: r => uptoBulk d + uptoBulkAll r
def uptoBulkEntries {H : Type} : List (Lit × DataW H) → Nat
  | [] => 0
  | x :: r => uptoBulkEntry x + uptoBulkEntries r
def uptoBulkEntry {H : Type} : Lit × DataW H → Nat
  | (.string bytes, d) => bytes.length + uptoBulk d + 1
  | (_, d) => uptoBulk d + 1
 end
def uptoSmall : (H : Type) → List (DataW H) → Bool := fun _ ds => decide (uptoBulkAll ds ≤ 1048576)
def OpenSpec.upto (s : _root_.Go.ChangeSpec) : _root_.Go.OpenSpec := { _root_.Go.OpenSpec.ofChange s with cond := some uptoSmall }

/-- 'tallboylaw19.ReqPieces', WHERE WHAT IT READS IS OF BULK AT MOST 1048576: true; the input reads as it did. -/
def reqPiecesUptoRow : OpenClaim := { program := "ytjdnpgdedbegfaa", sum := "f988f4b82890967e908c0825c69582621aca4fb28520d3c05d8ed2e0160c6d7a", func := "tallboy/tallboylaw19.ReqPieces", spec := "reqPieces", inPlace := ["internal/bytealg.IndexByte", "internal/bytealg.Index"], unfollowed := true, recurses := true, named := ["internal/bytealg.MaxLen"], apart := false, narrowed := true }
def ReqPiecesUptoSaid : Prop := reqPiecesUptoRow.holds Try.pinned (OpenSpec.upto reqPiecesSpec)

/-- 'tallboylaw19.ReqQuotes', WHERE WHAT IT READS IS OF BULK AT MOST 1048576: true; the input reads as it did. -/
def reqQuotesUptoRow : OpenClaim := { program := "ytjdnpgdedbegfaa", sum := "f988f4b82890967e908c0825c69582621aca4fb28520d3c05d8ed2e0160c6d7a", func := "tallboy/tallboylaw19.ReqQuotes", spec := "reqQuotes", inPlace := ["internal/bytealg.IndexByte", "internal/bytealg.Index"], unfollowed := true, recurses := true, named := ["internal/bytealg.MaxLen"], apart := false, narrowed := true }
def ReqQuotesUptoSaid : Prop := reqQuotesUptoRow.holds Try.pinned (OpenSpec.upto reqQuotesSpec)

/-- 'tallboylaw19.ReqNumbers', WHERE WHAT IT READS IS OF BULK AT MOST 1048576: true; the input reads as it did. -/
def reqNumbersUptoRow : OpenClaim := { program := "ytjdnpgdedbegfaa", sum := "f988f4b82890967e908c0825c69582621aca4fb28520d3c05d8ed2e0160c6d7a", func := "tallboy/tallboylaw19.ReqNumbers", spec := "reqNumbers", inPlace := ["internal/bytealg.IndexByte", "internal/bytealg.Index"], unfollowed := true, recurses := true, named := ["internal/bytealg.MaxLen"], apart := false, narrowed := true }
def ReqNumbersUptoSaid : Prop := reqNumbersUptoRow.holds Try.pinned (OpenSpec.upto reqNumbersSpec)

/-- 'tallboylaw19.ReqBack', WHERE WHAT IT READS IS OF BULK AT MOST 1048576: true; the input reads as it did. -/
def reqBackUptoRow : OpenClaim := { program := "ytjdnpgdedbegfaa", sum := "f988f4b82890967e908c0825c69582621aca4fb28520d3c05d8ed2e0160c6d7a", func := "tallboy/tallboylaw19.ReqBack", spec := "reqBack", inPlace := ["internal/bytealg.IndexByte", "internal/bytealg.Index"], unfollowed := true, recurses := true, named := ["internal/bytealg.MaxLen"], apart := false, narrowed := true }
def ReqBackUptoSaid : Prop := reqBackUptoRow.holds Try.pinned (OpenSpec.upto reqBackSpec)

/-- 'tallboylaw19.ReqParts', WHERE WHAT IT READS IS OF BULK AT MOST 1048576: true; the input reads as it did. -/
def reqPartsUptoRow : OpenClaim := { program := "ytjdnpgdedbegfaa", sum := "f988f4b82890967e908c0825c69582621aca4fb28520d3c05d8ed2e0160c6d7a", func := "tallboy/tallboylaw19.ReqParts", spec := "reqParts", inPlace := ["internal/bytealg.IndexByte", "internal/bytealg.Index"], unfollowed := true, recurses := true, named := ["internal/bytealg.MaxLen"], apart := false, narrowed := true }
def ReqPartsUptoSaid : Prop := reqPartsUptoRow.holds Try.pinned (OpenSpec.upto reqPartsSpec)

end Rows
end Go.Proofs.Ytjdnpgdedbegfaa
