/- Replies by what their kind has; replies whose blocks are there. -/
import Derived.Test.YtjefpnhffdeekaaRepM
namespace Go.Proofs.Ytjefpnhffdeekaa
open Go.RowKit
set_option linter.unusedVariables false

def txt (k : Int) : Bool := decide (k = 1 ∨ k = 2 ∨ k = 4)
def prt (k : Int) : Bool := decide (k = 7 ∨ k = 8 ∨ k = 9)
mutual
/-- A reply by what its kind has. -/
def Rep.norm : Rep → Rep
  | .mk k s n l => .mk k (if txt k then s else []) (if k = 3 then n else 0) (if prt k then Rep.norms l else [])
def Rep.norms : List Rep → List Rep
  | [] => []
  | r :: t => r.norm :: Rep.norms t
end
theorem norms_len : ∀ l : List Rep, (Rep.norms l).length = l.length
  | [] => rfl
  | r :: t => by unfold Rep.norms; simp [norms_len t]
theorem norms_at : ∀ (l : List Rep) (i : Nat), (Rep.norms l)[i]? = l[i]?.map Rep.norm
  | [], i => rfl
  | r :: t, 0 => rfl
  | r :: t, i + 1 => by unfold Rep.norms; simpa using norms_at t i
/-- All blocks that a reply leads to are there. -/
abbrev Liv (w : World) (r : Rep) (cs : List Value) : Prop := RV w (fun b => b < w.heap.size) r cs
theorem Liv.below {w w' : World} {r : Rep} {cs : List Value} (h : Liv w r cs) (hb : Below w.heap.size w w') : Liv w' r cs :=
  RV.mono (fun b hb' => Nat.lt_of_lt_of_le hb' hb.size) (RV.keep (fun p hp => hb.cell hp) h)
theorem sizeOf_mem {k n : Int} {s : List UInt8} {l : List Rep} {r : Rep} (h : r ∈ l) : SizeOf.sizeOf r < SizeOf.sizeOf (Rep.mk k s n l) := by
  have := List.sizeOf_lt_of_mem h
  simp; omega

/-- Where the loop of Order stands. -/
theorem same_at {l m : List Rep} (h : Rep.norms l = Rep.norms m) {i : Nat} {a b : Rep} (ha : l[i]? = some a) (hb : m[i]? = some b) : a.norm = b.norm := by
  have h1 := norms_at l i
  have h2 := norms_at m i
  rw [ha] at h1; rw [hb] at h2
  rw [h, h2] at h1
  simpa using h1.symm
theorem same_len {l m : List Rep} (h : Rep.norms l = Rep.norms m) : l.length = m.length := by rw [← norms_len l, h, norms_len]

end Go.Proofs.Ytjefpnhffdeekaa
