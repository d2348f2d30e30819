/- The words of codes (package fault, and the document's answer tallboyref1): the plain law. -/
import Derived.Test.YtnmchplabaoflaaGreatDoorOwn
import Derived.Shelf.Strings.Replace
namespace Go.Proofs.YtnmchplabaoflaaGreatDoor
open Go.RowKit
set_option linter.unusedVariables false

/-- A byte as it is shown in a client's line. -/
def qm (c : UInt8) : UInt8 := if c.toNat < 32 ∨ 126 < c.toNat ∨ c.toNat = 39 then 63 else c
def pln (l : List UInt8) : List UInt8 := l.map qm
theorem pln_len (l : List UInt8) : (pln l).length = l.length := by simp [pln]
theorem qm_range (c : UInt8) : 32 ≤ (qm c).toNat ∧ (qm c).toNat ≤ 126 := by
  unfold qm
  split
  · decide
  · omega

/-- A code's words, x being the command. -/
def tx (c : Int) (x : List UInt8) : List UInt8 :=
  if c = 1 then [69, 82, 82, 32, 115, 121, 110, 116, 97, 120, 32, 101, 114, 114, 111, 114]
  else if c = 2 then [69, 82, 82, 32, 119, 114, 111, 110, 103, 32, 110, 117, 109, 98, 101, 114, 32, 111, 102, 32, 97, 114, 103, 117, 109, 101, 110, 116, 115, 32, 102, 111, 114, 32, 39] ++ x ++ [39, 32, 99, 111, 109, 109, 97, 110, 100]
  else if c = 3 then [69, 82, 82, 32, 117, 110, 107, 110, 111, 119, 110, 32, 99, 111, 109, 109, 97, 110, 100, 32, 39] ++ x ++ [39]
  else if c = 4 then [87, 82, 79, 78, 71, 84, 89, 80, 69, 32, 79, 112, 101, 114, 97, 116, 105, 111, 110, 32, 97, 103, 97, 105, 110, 115, 116, 32, 97, 32, 107, 101, 121, 32, 104, 111, 108, 100, 105, 110, 103, 32, 116, 104, 101, 32, 119, 114, 111, 110, 103, 32, 107, 105, 110, 100, 32, 111, 102, 32, 118, 97, 108, 117, 101]
  else if c = 5 then [69, 82, 82, 32, 118, 97, 108, 117, 101, 32, 105, 115, 32, 110, 111, 116, 32, 97, 110, 32, 105, 110, 116, 101, 103, 101, 114, 32, 111, 114, 32, 111, 117, 116, 32, 111, 102, 32, 114, 97, 110, 103, 101]
  else if c = 6 then [69, 82, 82, 32, 105, 110, 99, 114, 101, 109, 101, 110, 116, 32, 111, 114, 32, 100, 101, 99, 114, 101, 109, 101, 110, 116, 32, 119, 111, 117, 108, 100, 32, 111, 118, 101, 114, 102, 108, 111, 119]
  else if c = 7 then [69, 82, 82, 32, 110, 111, 32, 115, 117, 99, 104, 32, 107, 101, 121]
  else if c = 8 then [69, 82, 82, 32, 105, 110, 100, 101, 120, 32, 111, 117, 116, 32, 111, 102, 32, 114, 97, 110, 103, 101]
  else if c = 9 then [69, 82, 82, 32, 118, 97, 108, 117, 101, 32, 105, 115, 32, 111, 117, 116, 32, 111, 102, 32, 114, 97, 110, 103, 101]
  else if c = 10 then [69, 82, 82, 32, 98, 105, 116, 32, 105, 115, 32, 110, 111, 116, 32, 97, 110, 32, 105, 110, 116, 101, 103, 101, 114, 32, 111, 114, 32, 111, 117, 116, 32, 111, 102, 32, 114, 97, 110, 103, 101]
  else if c = 11 then [69, 82, 82, 32, 115, 116, 114, 105, 110, 103, 32, 101, 120, 99, 101, 101, 100, 115, 32, 109, 97, 120, 105, 109, 117, 109, 32, 97, 108, 108, 111, 119, 101, 100, 32, 115, 105, 122, 101]
  else if c = 12 then [69, 82, 82, 32, 105, 110, 118, 97, 108, 105, 100, 32, 101, 120, 112, 105, 114, 101, 32, 116, 105, 109, 101, 32, 105, 110, 32, 39] ++ x ++ [39, 32, 99, 111, 109, 109, 97, 110, 100]
  else if c = 13 then [69, 82, 82, 32, 105, 110, 118, 97, 108, 105, 100, 32, 99, 117, 114, 115, 111, 114]
  else if c = 14 then [69, 82, 82, 32, 115, 111, 117, 114, 99, 101, 32, 97, 110, 100, 32, 100, 101, 115, 116, 105, 110, 97, 116, 105, 111, 110, 32, 111, 98, 106, 101, 99, 116, 115, 32, 97, 114, 101, 32, 116, 104, 101, 32, 115, 97, 109, 101]
  else if c = 15 then [69, 82, 82, 32, 104, 97, 115, 104, 32, 118, 97, 108, 117, 101, 32, 105, 115, 32, 110, 111, 116, 32, 97, 110, 32, 105, 110, 116, 101, 103, 101, 114]
  else if c = 16 then [69, 82, 82, 32, 80, 114, 111, 116, 111, 99, 111, 108, 32, 101, 114, 114, 111, 114]
  else if c = 17 then [69, 82, 82, 32, 77, 85, 76, 84, 73, 32, 99, 97, 108, 108, 115, 32, 99, 97, 110, 32, 110, 111, 116, 32, 98, 101, 32, 110, 101, 115, 116, 101, 100]
  else if c = 18 then [69, 82, 82, 32, 69, 88, 69, 67, 32, 119, 105, 116, 104, 111, 117, 116, 32, 77, 85, 76, 84, 73]
  else if c = 19 then [69, 82, 82, 32, 68, 73, 83, 67, 65, 82, 68, 32, 119, 105, 116, 104, 111, 117, 116, 32, 77, 85, 76, 84, 73]
  else if c = 20 then [69, 82, 82, 32, 87, 65, 84, 67, 72, 32, 105, 110, 115, 105, 100, 101, 32, 77, 85, 76, 84, 73, 32, 105, 115, 32, 110, 111, 116, 32, 97, 108, 108, 111, 119, 101, 100]
  else if c = 21 then [69, 88, 69, 67, 65, 66, 79, 82, 84, 32, 84, 114, 97, 110, 115, 97, 99, 116, 105, 111, 110, 32, 100, 105, 115, 99, 97, 114, 100, 101, 100, 32, 98, 101, 99, 97, 117, 115, 101, 32, 111, 102, 32, 112, 114, 101, 118, 105, 111, 117, 115, 32, 101, 114, 114, 111, 114, 115, 46]
  else if c = 22 then [78, 79, 80, 82, 79, 84, 79, 32, 117, 110, 115, 117, 112, 112, 111, 114, 116, 101, 100, 32, 112, 114, 111, 116, 111, 99, 111, 108, 32, 118, 101, 114, 115, 105, 111, 110]
  else if c = 23 then [69, 82, 82, 32, 116, 111, 111, 32, 109, 117, 99, 104]
  else if c = 24 then [69, 82, 82, 32, 98, 97, 100, 32, 102, 111, 114, 109]
  else if c = 25 then [69, 82, 82, 32, 111, 102, 102, 115, 101, 116, 32, 105, 115, 32, 111, 117, 116, 32, 111, 102, 32, 114, 97, 110, 103, 101]
  else []
def cmd3 : List UInt8 := [67, 77, 68]
theorem codes_of (c : Int) : c = 1 ∨ c = 2 ∨ c = 3 ∨ c = 4 ∨ c = 5 ∨ c = 6 ∨ c = 7 ∨ c = 8 ∨ c = 9 ∨ c = 10 ∨ c = 11 ∨ c = 12 ∨ c = 13 ∨ c = 14 ∨ c = 15 ∨ c = 16 ∨ c = 17 ∨ c = 18 ∨ c = 19 ∨ c = 20 ∨ c = 21 ∨ c = 22 ∨ c = 23 ∨ c = 24 ∨ c = 25 ∨ (¬ c = 1 ∧ ¬ c = 2 ∧ ¬ c = 3 ∧ ¬ c = 4 ∧ ¬ c = 5 ∧ ¬ c = 6 ∧ ¬ c = 7 ∧ ¬ c = 8 ∧ ¬ c = 9 ∧ ¬ c = 10 ∧ ¬ c = 11 ∧ ¬ c = 12 ∧ ¬ c = 13 ∧ ¬ c = 14 ∧ ¬ c = 15 ∧ ¬ c = 16 ∧ ¬ c = 17 ∧ ¬ c = 18 ∧ ¬ c = 19 ∧ ¬ c = 20 ∧ ¬ c = 21 ∧ ¬ c = 22 ∧ ¬ c = 23 ∧ ¬ c = 24 ∧ ¬ c = 25) := by omega
theorem tx_other (c : Int) (h : ¬ c = 1 ∧ ¬ c = 2 ∧ ¬ c = 3 ∧ ¬ c = 4 ∧ ¬ c = 5 ∧ ¬ c = 6 ∧ ¬ c = 7 ∧ ¬ c = 8 ∧ ¬ c = 9 ∧ ¬ c = 10 ∧ ¬ c = 11 ∧ ¬ c = 12 ∧ ¬ c = 13 ∧ ¬ c = 14 ∧ ¬ c = 15 ∧ ¬ c = 16 ∧ ¬ c = 17 ∧ ¬ c = 18 ∧ ¬ c = 19 ∧ ¬ c = 20 ∧ ¬ c = 21 ∧ ¬ c = 22 ∧ ¬ c = 23 ∧ ¬ c = 24 ∧ ¬ c = 25) (x : List UInt8) : tx c x = [] := by
  obtain ⟨h1, h2, h3, h4, h5, h6, h7, h8, h9, h10, h11, h12, h13, h14, h15, h16, h17, h18, h19, h20, h21, h22, h23, h24, h25⟩ := h
  unfold tx
  simp only [h1, h2, h3, h4, h5, h6, h7, h8, h9, h10, h11, h12, h13, h14, h15, h16, h17, h18, h19, h20, h21, h22, h23, h24, h25, if_false]
theorem tx_1 (x : List UInt8) : tx 1 x = [69, 82, 82, 32, 115, 121, 110, 116, 97, 120, 32, 101, 114, 114, 111, 114] := by unfold tx; simp
theorem tx_2 (x : List UInt8) : tx 2 x = [69, 82, 82, 32, 119, 114, 111, 110, 103, 32, 110, 117, 109, 98, 101, 114, 32, 111, 102, 32, 97, 114, 103, 117, 109, 101, 110, 116, 115, 32, 102, 111, 114, 32, 39] ++ x ++ [39, 32, 99, 111, 109, 109, 97, 110, 100] := by unfold tx; simp
theorem tx_3 (x : List UInt8) : tx 3 x = [69, 82, 82, 32, 117, 110, 107, 110, 111, 119, 110, 32, 99, 111, 109, 109, 97, 110, 100, 32, 39] ++ x ++ [39] := by unfold tx; simp
theorem tx_4 (x : List UInt8) : tx 4 x = [87, 82, 79, 78, 71, 84, 89, 80, 69, 32, 79, 112, 101, 114, 97, 116, 105, 111, 110, 32, 97, 103, 97, 105, 110, 115, 116, 32, 97, 32, 107, 101, 121, 32, 104, 111, 108, 100, 105, 110, 103, 32, 116, 104, 101, 32, 119, 114, 111, 110, 103, 32, 107, 105, 110, 100, 32, 111, 102, 32, 118, 97, 108, 117, 101] := by unfold tx; simp
theorem tx_5 (x : List UInt8) : tx 5 x = [69, 82, 82, 32, 118, 97, 108, 117, 101, 32, 105, 115, 32, 110, 111, 116, 32, 97, 110, 32, 105, 110, 116, 101, 103, 101, 114, 32, 111, 114, 32, 111, 117, 116, 32, 111, 102, 32, 114, 97, 110, 103, 101] := by unfold tx; simp
theorem tx_6 (x : List UInt8) : tx 6 x = [69, 82, 82, 32, 105, 110, 99, 114, 101, 109, 101, 110, 116, 32, 111, 114, 32, 100, 101, 99, 114, 101, 109, 101, 110, 116, 32, 119, 111, 117, 108, 100, 32, 111, 118, 101, 114, 102, 108, 111, 119] := by unfold tx; simp
theorem tx_7 (x : List UInt8) : tx 7 x = [69, 82, 82, 32, 110, 111, 32, 115, 117, 99, 104, 32, 107, 101, 121] := by unfold tx; simp
theorem tx_8 (x : List UInt8) : tx 8 x = [69, 82, 82, 32, 105, 110, 100, 101, 120, 32, 111, 117, 116, 32, 111, 102, 32, 114, 97, 110, 103, 101] := by unfold tx; simp
theorem tx_9 (x : List UInt8) : tx 9 x = [69, 82, 82, 32, 118, 97, 108, 117, 101, 32, 105, 115, 32, 111, 117, 116, 32, 111, 102, 32, 114, 97, 110, 103, 101] := by unfold tx; simp
theorem tx_10 (x : List UInt8) : tx 10 x = [69, 82, 82, 32, 98, 105, 116, 32, 105, 115, 32, 110, 111, 116, 32, 97, 110, 32, 105, 110, 116, 101, 103, 101, 114, 32, 111, 114, 32, 111, 117, 116, 32, 111, 102, 32, 114, 97, 110, 103, 101] := by unfold tx; simp
theorem tx_11 (x : List UInt8) : tx 11 x = [69, 82, 82, 32, 115, 116, 114, 105, 110, 103, 32, 101, 120, 99, 101, 101, 100, 115, 32, 109, 97, 120, 105, 109, 117, 109, 32, 97, 108, 108, 111, 119, 101, 100, 32, 115, 105, 122, 101] := by unfold tx; simp
theorem tx_12 (x : List UInt8) : tx 12 x = [69, 82, 82, 32, 105, 110, 118, 97, 108, 105, 100, 32, 101, 120, 112, 105, 114, 101, 32, 116, 105, 109, 101, 32, 105, 110, 32, 39] ++ x ++ [39, 32, 99, 111, 109, 109, 97, 110, 100] := by unfold tx; simp
theorem tx_13 (x : List UInt8) : tx 13 x = [69, 82, 82, 32, 105, 110, 118, 97, 108, 105, 100, 32, 99, 117, 114, 115, 111, 114] := by unfold tx; simp
theorem tx_14 (x : List UInt8) : tx 14 x = [69, 82, 82, 32, 115, 111, 117, 114, 99, 101, 32, 97, 110, 100, 32, 100, 101, 115, 116, 105, 110, 97, 116, 105, 111, 110, 32, 111, 98, 106, 101, 99, 116, 115, 32, 97, 114, 101, 32, 116, 104, 101, 32, 115, 97, 109, 101] := by unfold tx; simp
theorem tx_15 (x : List UInt8) : tx 15 x = [69, 82, 82, 32, 104, 97, 115, 104, 32, 118, 97, 108, 117, 101, 32, 105, 115, 32, 110, 111, 116, 32, 97, 110, 32, 105, 110, 116, 101, 103, 101, 114] := by unfold tx; simp
theorem tx_16 (x : List UInt8) : tx 16 x = [69, 82, 82, 32, 80, 114, 111, 116, 111, 99, 111, 108, 32, 101, 114, 114, 111, 114] := by unfold tx; simp
theorem tx_17 (x : List UInt8) : tx 17 x = [69, 82, 82, 32, 77, 85, 76, 84, 73, 32, 99, 97, 108, 108, 115, 32, 99, 97, 110, 32, 110, 111, 116, 32, 98, 101, 32, 110, 101, 115, 116, 101, 100] := by unfold tx; simp
theorem tx_18 (x : List UInt8) : tx 18 x = [69, 82, 82, 32, 69, 88, 69, 67, 32, 119, 105, 116, 104, 111, 117, 116, 32, 77, 85, 76, 84, 73] := by unfold tx; simp
theorem tx_19 (x : List UInt8) : tx 19 x = [69, 82, 82, 32, 68, 73, 83, 67, 65, 82, 68, 32, 119, 105, 116, 104, 111, 117, 116, 32, 77, 85, 76, 84, 73] := by unfold tx; simp
theorem tx_20 (x : List UInt8) : tx 20 x = [69, 82, 82, 32, 87, 65, 84, 67, 72, 32, 105, 110, 115, 105, 100, 101, 32, 77, 85, 76, 84, 73, 32, 105, 115, 32, 110, 111, 116, 32, 97, 108, 108, 111, 119, 101, 100] := by unfold tx; simp
theorem tx_21 (x : List UInt8) : tx 21 x = [69, 88, 69, 67, 65, 66, 79, 82, 84, 32, 84, 114, 97, 110, 115, 97, 99, 116, 105, 111, 110, 32, 100, 105, 115, 99, 97, 114, 100, 101, 100, 32, 98, 101, 99, 97, 117, 115, 101, 32, 111, 102, 32, 112, 114, 101, 118, 105, 111, 117, 115, 32, 101, 114, 114, 111, 114, 115, 46] := by unfold tx; simp
theorem tx_22 (x : List UInt8) : tx 22 x = [78, 79, 80, 82, 79, 84, 79, 32, 117, 110, 115, 117, 112, 112, 111, 114, 116, 101, 100, 32, 112, 114, 111, 116, 111, 99, 111, 108, 32, 118, 101, 114, 115, 105, 111, 110] := by unfold tx; simp
theorem tx_23 (x : List UInt8) : tx 23 x = [69, 82, 82, 32, 116, 111, 111, 32, 109, 117, 99, 104] := by unfold tx; simp
theorem tx_24 (x : List UInt8) : tx 24 x = [69, 82, 82, 32, 98, 97, 100, 32, 102, 111, 114, 109] := by unfold tx; simp
theorem tx_25 (x : List UInt8) : tx 25 x = [69, 82, 82, 32, 111, 102, 102, 115, 101, 116, 32, 105, 115, 32, 111, 117, 116, 32, 111, 102, 32, 114, 97, 110, 103, 101] := by unfold tx; simp
theorem tx_len (c : Int) (x : List UInt8) : (tx c x).length ≤ 80 + x.length := by
  rcases codes_of c with rfl | rfl | rfl | rfl | rfl | rfl | rfl | rfl | rfl | rfl | rfl | rfl | rfl | rfl | rfl | rfl | rfl | rfl | rfl | rfl | rfl | rfl | rfl | rfl | rfl | h
  all_goals first
    | (rw [tx_other c h]; simp)
    | (unfold tx; simp <;> omega)
theorem tx_pos (c : Int) (h1 : 1 ≤ c) (h2 : c ≤ 25) (x : List UInt8) : 0 < (tx c x).length := by
  rcases codes_of c with rfl | rfl | rfl | rfl | rfl | rfl | rfl | rfl | rfl | rfl | rfl | rfl | rfl | rfl | rfl | rfl | rfl | rfl | rfl | rfl | rfl | rfl | rfl | rfl | rfl | h
  all_goals first
    | (exfalso; omega)
    | (unfold tx; simp)
theorem hasCmd (c : Int) : Lib.contains (tx c cmd3) cmd3 = decide (c = 2 ∨ c = 3 ∨ c = 12) := by
  rcases codes_of c with rfl | rfl | rfl | rfl | rfl | rfl | rfl | rfl | rfl | rfl | rfl | rfl | rfl | rfl | rfl | rfl | rfl | rfl | rfl | rfl | rfl | rfl | rfl | rfl | rfl | h
  all_goals first
    | decide +kernel
    | (rw [tx_other c h, show decide (c = 2 ∨ c = 3 ∨ c = 12) = false from decide_eq_false (fun hh => by rcases hh with rfl | rfl | rfl <;> simp at h)]; decide +kernel)
theorem noCmd (c : Int) (h : ¬ (c = 2 ∨ c = 3 ∨ c = 12)) (x y : List UInt8) : tx c x = tx c y := by
  rcases codes_of c with rfl | rfl | rfl | rfl | rfl | rfl | rfl | rfl | rfl | rfl | rfl | rfl | rfl | rfl | rfl | rfl | rfl | rfl | rfl | rfl | rfl | rfl | rfl | rfl | rfl | h'
  all_goals first
    | (rw [tx_other c h', tx_other c h'])
    | (unfold tx; simp; done)
    | (exfalso; exact h (by decide))
theorem inCmd (c : Int) (h : c = 2 ∨ c = 3 ∨ c = 12) (x : List UInt8) : Lib.replace (tx c cmd3) cmd3 x 1 = tx c x := by
  unfold Lib.replace
  by_cases hx : (cmd3 == x) = true
  · rw [if_pos hx, ← (eq_of_beq hx)]
  · rw [if_neg hx]
    rcases h with rfl | rfl | rfl
    · rw [show Lib.replaceNum (tx 2 cmd3) cmd3 1 = 1 by decide +kernel, Lib.replaceK_hit cmd3 x 0 _ 35 (by decide +kernel), tx_2, tx_2]
      rfl
    · rw [show Lib.replaceNum (tx 3 cmd3) cmd3 1 = 1 by decide +kernel, Lib.replaceK_hit cmd3 x 0 _ 21 (by decide +kernel), tx_3, tx_3]
      rfl
    · rw [show Lib.replaceNum (tx 12 cmd3) cmd3 1 = 1 by decide +kernel, Lib.replaceK_hit cmd3 x 0 _ 28 (by decide +kernel), tx_12, tx_12]
      rfl
end Go.Proofs.YtnmchplabaoflaaGreatDoor
