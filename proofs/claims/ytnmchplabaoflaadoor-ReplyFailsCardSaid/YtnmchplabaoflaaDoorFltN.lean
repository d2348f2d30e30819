/- The walks of the Fault laws as their frames call them. -/
import Derived.Test.YtnmchplabaoflaaDoorFltM
namespace Go.Proofs.YtnmchplabaoflaaDoor
open Go.RowKit
set_option linter.unusedVariables false

abbrev bd (c : Int) : Prop := -9223372036854775808 ≤ c ∧ c ≤ 9223372036854775807
theorem faultTexts_walk (c : Int) (x : ByteArray) (w : World) (h1 : bd c) (hx : x.size ≤ maxLen) (hm : My w) (hg : Et w) :
    Calls Tryd.prog 3 #[.int .i64 c, .string x] w fun e w' => e = .returned (.bool true) ∧ Below w.heap.size w w' := faultTexts_go c x w h1 hx hg hm
theorem faultIs_walk (c d : Int) (v : Value) (ls : List (List UInt8)) (w : World) (h1 : bd c) (h2 : bd d) (hv : Arg1 w v ls) (hm : My w) (hg : Et w) :
    Calls Tryd.prog 6 #[.int .i64 c, .int .i64 d, v] w fun e w' => e = .returned (.bool true) ∧ Below w.heap.size w w' := by
  by_cases hc : c = 0
  · subst hc; exact faultIs_ok d v ls w hv hg hm
  · exact faultIs_pos c d v ls w hv hc hg hm
theorem faultUnwraps_walk (c : Int) (v : Value) (ls : List (List UInt8)) (x : ByteArray) (w : World) (h1 : bd c) (hv : Arg1 w v ls) (hx : x.size ≤ maxLen) (hm : My w) (hg : Et w) :
    Calls Tryd.prog 7 #[.int .i64 c, v, .string x] w fun e w' => e = .returned (.bool true) ∧ Below w.heap.size w w' := by
  by_cases hc : c = 0
  · subst hc; exact faultUnwraps_ok v ls x w hv hx hg hm
  · exact faultUnwraps_pos c v ls x w hv hc hx hg hm
theorem faultDepths_walk (c : Int) (v : Value) (la : List (List UInt8)) (u : Value) (lb : List (List UInt8)) (w : World) (h1 : bd c) (hv : Arg1 w v la) (hu : Arg1 w u lb) (hm : My w) (hg : Et w) :
    Calls Tryd.prog 4 #[.int .i64 c, v, u] w fun e w' => e = .returned (.bool true) ∧ Below w.heap.size w w' := by
  by_cases hc : c = 0
  · subst hc; exact faultDepths_ok v u la lb w hv hu hg hm
  · exact faultDepths_pos c v u la lb w hv hu hc hg hm
theorem faultTells_walk (c : Int) (v : Value) (la : List (List UInt8)) (w : World) (h1 : bd c) (hv : Arg1 w v la) (hm : My w) (hg : Et w) :
    Calls Tryd.prog 8 #[.int .i64 c, v] w fun e w' => e = .returned (.bool true) ∧ Below w.heap.size w w' := by
  by_cases hc : c = 0
  · subst hc; exact faultTells_ok v la w hv hg hm
  · exact faultTells_pos c v la w hv hc hg hm
end Go.Proofs.YtnmchplabaoflaaDoor
