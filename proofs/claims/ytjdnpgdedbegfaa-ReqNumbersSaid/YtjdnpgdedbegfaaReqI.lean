/- Plain: the library's search for 13 10, and for 10, is ours. -/
import Derived.Test.YtjdnpgdedbegfaaReqP
import Derived.Lib.Index
import Derived.Lib.Bytes
import Derived.Lib.Bytealg
namespace Go.Proofs.Ytjdnpgdedbegfaa
set_option linter.unusedVariables false

def placed : Option Nat → Int
  | none => -1
  | some k => k
theorem index_crlf : ∀ l : List UInt8, Lib.index l [13, 10] = placed (Rq.crlf l)
  | [] => rfl
  | c :: t => by
    unfold Lib.index Rq.crlf
    have hp : List.isPrefixOf [13, 10] (c :: t) = decide (c = 13 ∧ t.head? = some 10) := by
      cases t with
      | nil => simp [List.isPrefixOf]
      | cons d t' =>
        simp only [List.isPrefixOf, List.head?_cons, Option.some.injEq, Bool.and_true]
        rw [show ((13 : UInt8) == c) = decide (c = 13) from by rw [Bool.eq_iff_iff]; simp only [beq_iff_eq, decide_eq_true_eq]; exact eq_comm,
          show ((10 : UInt8) == d) = decide (d = 10) from by rw [Bool.eq_iff_iff]; simp only [beq_iff_eq, decide_eq_true_eq]; exact eq_comm]
        rw [← Bool.decide_and]
    rw [hp]
    by_cases h : c = 13 ∧ t.head? = some 10
    · rw [if_pos h, if_pos (by simpa using h)]; rfl
    · rw [if_neg h, if_neg (by simpa using h), index_crlf t]
      rcases Rq.crlf t with _ | k
      · rfl
      · have : ((placed (some k)) == (-1 : Int)) = false := by simp only [placed, beq_eq_false_iff_ne]; omega
        rw [this]; simp [placed]
theorem bytesOf_nums (l : List UInt8) : Lib.bytesOf (l.map fun c => (c.toNat : Int)) = l := by
  unfold Lib.bytesOf
  rw [List.map_map]
  conv => rhs; rw [← List.map_id l]
  apply List.map_congr_left
  intro c _
  simp
theorem indexByte_idx : ∀ l : List UInt8, Lib.indexByte l 10 = placed (Rq.idx 10 l)
  | [] => rfl
  | c :: t => by
    unfold Lib.indexByte Rq.idx
    by_cases h : c = 10
    · rw [if_pos h, if_pos (by simpa using h)]; rfl
    · rw [if_neg h, if_neg (by simpa using h), indexByte_idx t]
      rcases Rq.idx 10 t with _ | k
      · rfl
      · have : ((placed (some k)) == (-1 : Int)) = false := by simp only [placed, beq_eq_false_iff_ne]; omega
        rw [this]; simp [placed]
end Go.Proofs.Ytjdnpgdedbegfaa
