/- The walk of known (tallboylaw1) and of the law FaultIs. -/
import Derived.Test.YtnmchplabaoflaaDoorFltI
import Derived.Deep.RegionHeld3
namespace Go.Proofs.YtnmchplabaoflaaDoor
open Go.RowKit Go.Shelf
set_option linter.unusedVariables false

def get3 : List UInt8 := [103, 101, 116]
theorem pln_get3 : pln get3 = get3 := by decide +kernel
theorem arity_get : sv (tx 2 (pln get3)) = .string ⟨#[69, 82, 82, 32, 119, 114, 111, 110, 103, 32, 110, 117, 109, 98, 101, 114, 32, 111, 102, 32, 97, 114, 103, 117, 109, 101, 110, 116, 115, 32, 102, 111, 114, 32, 39, 103, 101, 116, 39, 32, 99, 111, 109, 109, 97, 110, 100]⟩ := by rw [tx_2, pln_get3]; rfl

set_option maxRecDepth 100000 in
set_option maxHeartbeats 4000000 in
theorem known_any (w : World) (hg : Et w) (hm : My w) :
    Calls Tryd.prog 14 #[] w fun e w' => e = .returned (.bool true) ∧ Below w.heap.size w w' := by
  have HG := Lib.hid hg
  have HM := Lib.hid hm
  have HNEW := Lib.hid (new_any [98] 4 w (by decide))
  have HWR := Lib.hid (fun l w1 h1 h2 => wrap_any (code_chain 4) (by decide) ⟨_, _, rfl⟩ [97] l w1 h1 h2)
  have HCO := Lib.hid (fun l w1 h1 h2 => code_chain 4 l w1 h1 h2)
  have HT := Lib.hid (fun w1 h1 => text_any 2 get3 w1 (by decide) h1)
  rw [arity_get] at HT
  clear hg hm
  go_enter Tryd.func14, Tryd.ntmps14
  go_wp2_with fail
  refine HNEW.out.mono ?_
  rintro e w1 ⟨g1, rfl, hc1, hb1⟩
  have HC1 := Lib.hid hc1; have HB1 := Lib.hid hb1; clear hc1 hb1
  go_wp2_with fail
  refine (HWR.out _ _ HC1.out (HG.out.below_ HB1.out)).mono ?_
  rintro e w2 ⟨g2, rfl, hc2, hb2⟩
  have HC2 := Lib.hid hc2; have HB2 := Lib.hid (below_trans HB1.out hb2); clear hc2 hb2
  go_wp2_with fail
  refine (HCO.out _ _ HC2.out (HG.out.below_ HB2.out)).mono ?_
  rintro e w3 ⟨rfl, hb3⟩
  have HB3 := Lib.hid (below_trans HB2.out hb3); clear hb3
  go_wp2_with fail
  refine (code_nil _).mono ?_
  rintro e w4 ⟨rfl, hb4⟩
  have HB4 := Lib.hid (below_trans HB3.out hb4); clear hb4
  go_wp2_with fail
  refine (wrap_nil _ _).mono ?_
  rintro e w5 ⟨rfl, hb5⟩
  have HB5 := Lib.hid (below_trans HB4.out hb5); clear hb5
  go_wp2_with fail
  refine (HT.out _ (HM.out.below_ HB5.out)).mono ?_
  rintro e w6 ⟨rfl, hb6⟩
  have HB6 := Lib.hid (below_trans HB5.out hb6); clear hb6
  go_wp2_with fail
  go_ret
  exact ⟨rfl, HB6.out⟩
end Go.Proofs.YtnmchplabaoflaaDoor
