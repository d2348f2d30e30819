/- Literals that lie in a block. -/
import Derived.Test.YtjdnpgdedbegfaaBase
namespace Go.Proofs.Ytjdnpgdedbegfaa
open Go.RowKit
set_option linter.unusedVariables false

/-! ### Literals that lie in a block: what each cell is -/
def strB (m : Nat) : Option Value → Bool
  | some (.string s) => decide (s.size ≤ m)
  | _ => false
def i64B : Option Value → Bool
  | some (.int .i64 n) => decide (-9223372036854775808 ≤ n ∧ n ≤ 9223372036854775807)
  | _ => false
theorem strs_lit {cs : Array Value} {n m : Nat} (h : (List.range n).all (fun j => strB m cs[j]?) = true) (w : World) (t : TypeId) :
    ∀ j, j < n → ∃ s : ByteArray, s.size ≤ m ∧ (w.alloc (.cells cs t)).cell? ⟨w.heap.size, j, none⟩ = some (.string s) := by
  intro j hj
  have := List.all_eq_true.1 h j (List.mem_range.2 hj)
  rw [World.cell?_alloc_at _ _ _ _ rfl]
  unfold strB at this
  split at this
  · rename_i s hs
    exact ⟨s, by simpa using this, hs⟩
  · cases this
theorem ints_lit {cs : Array Value} {n : Nat} (h : (List.range n).all (fun j => i64B cs[j]?) = true) (w : World) (t : TypeId) :
    ∀ j, j < n → ∃ x : Int, (-9223372036854775808 ≤ x ∧ x ≤ 9223372036854775807) ∧ (w.alloc (.cells cs t)).cell? ⟨w.heap.size, j, none⟩ = some (.int .i64 x) := by
  intro j hj
  have := List.all_eq_true.1 h j (List.mem_range.2 hj)
  rw [World.cell?_alloc_at _ _ _ _ rfl]
  unfold i64B at this
  split at this
  · rename_i s hs
    exact ⟨s, by simpa using this, hs⟩
  · cases this
end Go.Proofs.Ytjdnpgdedbegfaa
