/- reply's Failed, Fail: at a chain, at no error. -/
import Derived.Test.YtnmchplabaoflaaGreatDoorRplS
import Derived.Test.YtnmchplabaoflaaGreatDoorFltC
import Derived.Test.YtnmchplabaoflaaGreatDoorFltG
namespace Go.Proofs.YtnmchplabaoflaaGreatDoor
open Go.RowKit Go.Shelf
set_option linter.unusedVariables false

set_option maxRecDepth 100000 in
theorem failed_any (k : Int) (s : List UInt8) (n : Int) (A : Option Addr) (m c : Nat) (w : World) : Calls Tryz.prog 11 #[.agg #[.int .i64 k, sv s, .int .i64 n, .slice A m c]] w fun e w' => e = .returned (.bool (k == 2)) ∧ Below w.heap.size w w' := by
  go_enter Tryz.func11, Tryz.ntmps11
  go_wp2
  go_ret
  exact ⟨rfl, (Below.refl _ _).alloc (Nat.le_refl _) _⟩
set_option maxRecDepth 100000 in
set_option maxHeartbeats 4000000 in
theorem fail_any (c : Int) (s : List UInt8) (l : List (Nat × List UInt8)) (w : World) (hs : s.length ≤ 1000) (hch : Chn w (cd c) l) (hg : Et w) (hm : My w) :
    Calls Tryz.prog 8 #[sv s, ev (cd c) l] w fun e w' => e = .returned (.agg #[.int .i64 2, sv (tx c (pln s)), .int .i64 0, .slice none 0 0]) ∧ Below w.heap.size w w' := by
  have hb1 : Below w.heap.size w (w.alloc (.cells #[.int .i64 0, .string ⟨#[]⟩, .int .i64 0, .slice none 0 0] 24)) := (Below.refl _ _).alloc (Nat.le_refl _) _
  have HC := Lib.hid (fun w1 (hb : Below w.heap.size w w1) => code_chain c l w1 (hch.below hb) (hg.below_ hb))
  have HT := Lib.hid (fun w1 (hb : Below w.heap.size w w1) => text_any c s w1 hs (hm.below_ hb))
  have HX := Lib.hid (Blk.new w 24 #[.int .i64 0, .string ⟨#[]⟩, .int .i64 0, .slice none 0 0])
  have HLT := Lib.hid (show w.heap.size < (w.alloc (.cells #[.int .i64 0, .string ⟨#[]⟩, .int .i64 0, .slice none 0 0] 24)).heap.size by simp)
  have HB1 := Lib.hid hb1
  obtain ⟨u, v, hu⟩ := ev_iface ⟨_, _, rfl⟩ l (E0 := cd c)
  rw [hu] at HC ⊢
  obtain ⟨T, hT⟩ : ∃ T, tx c (pln s) = T := ⟨_, rfl⟩
  rw [hT] at HT ⊢
  clear hb1 hs hch hg hm hu hT
  go_enter Tryz.func8, Tryz.ntmps8
  go_wp2_with fail
  refine (HC.out _ HB1.out).mono ?_
  rintro e w1 ⟨rfl, hb1⟩
  have HB2 := Lib.hid (below_trans HB1.out hb1)
  have HX1 := Lib.hid (HX.out.below hb1 HLT.out); have HLT1 := Lib.hid (Nat.lt_of_lt_of_le HLT.out hb1.size); clear hb1
  go_wp2_with fail
  refine (HT.out _ HB2.out).mono ?_
  rintro e w2 ⟨rfl, hb2⟩
  have hb2f := HX1.out.below hb2 HLT1.out
  have HBF := Lib.hid (HB2.out.trans (hb2.mono HB2.out.size))
  clear hb2
  have k0 := hb2f.cell 0
  have k1 := hb2f.cell 1
  have k2 := hb2f.cell 2
  have k3 := hb2f.cell 3
  have z0 := hb2f.frozen 0
  have z1 := hb2f.frozen 1
  have z2 := hb2f.frozen 2
  have z3 := hb2f.frozen 3
  go_wp2_with fail
  refine bodyPost_ret (ret_cell1 rfl _ _ w.heap.size _ _ _ _ _ rfl (hb2f.put4 _ _ _ _)) rfl ?_
  exact ⟨rfl, put4_below HBF.out _ (Nat.le_refl _) _ _ _ _⟩
set_option maxRecDepth 100000 in
set_option maxHeartbeats 4000000 in
theorem fail_nil (s : List UInt8) (w : World) (hs : s.length ≤ 1000) (hm : My w) :
    Calls Tryz.prog 8 #[sv s, .nilIface] w fun e w' => e = .returned (.agg #[.int .i64 2, sv (tx 0 (pln s)), .int .i64 0, .slice none 0 0]) ∧ Below w.heap.size w w' := by
  have hb1 : Below w.heap.size w (w.alloc (.cells #[.int .i64 0, .string ⟨#[]⟩, .int .i64 0, .slice none 0 0] 24)) := (Below.refl _ _).alloc (Nat.le_refl _) _
  have HC := Lib.hid (fun w1 (hb : Below w.heap.size w w1) => code_nil w1)
  have HT := Lib.hid (fun w1 (hb : Below w.heap.size w w1) => text_any 0 s w1 hs (hm.below_ hb))
  have HX := Lib.hid (Blk.new w 24 #[.int .i64 0, .string ⟨#[]⟩, .int .i64 0, .slice none 0 0])
  have HLT := Lib.hid (show w.heap.size < (w.alloc (.cells #[.int .i64 0, .string ⟨#[]⟩, .int .i64 0, .slice none 0 0] 24)).heap.size by simp)
  have HB1 := Lib.hid hb1
  obtain ⟨T, hT⟩ : ∃ T, tx 0 (pln s) = T := ⟨_, rfl⟩
  rw [hT] at HT ⊢
  clear hb1 hs hm hT
  go_enter Tryz.func8, Tryz.ntmps8
  go_wp2_with fail
  refine (HC.out _ HB1.out).mono ?_
  rintro e w1 ⟨rfl, hb1⟩
  have HB2 := Lib.hid (below_trans HB1.out hb1)
  have HX1 := Lib.hid (HX.out.below hb1 HLT.out); have HLT1 := Lib.hid (Nat.lt_of_lt_of_le HLT.out hb1.size); clear hb1
  go_wp2_with fail
  refine (HT.out _ HB2.out).mono ?_
  rintro e w2 ⟨rfl, hb2⟩
  have hb2f := HX1.out.below hb2 HLT1.out
  have HBF := Lib.hid (HB2.out.trans (hb2.mono HB2.out.size))
  clear hb2
  have k0 := hb2f.cell 0
  have k1 := hb2f.cell 1
  have k2 := hb2f.cell 2
  have k3 := hb2f.cell 3
  have z0 := hb2f.frozen 0
  have z1 := hb2f.frozen 1
  have z2 := hb2f.frozen 2
  have z3 := hb2f.frozen 3
  go_wp2_with fail
  refine bodyPost_ret (ret_cell1 rfl _ _ w.heap.size _ _ _ _ _ rfl (hb2f.put4 _ _ _ _)) rfl ?_
  exact ⟨rfl, put4_below HBF.out _ (Nat.le_refl _) _ _ _ _⟩
end Go.Proofs.YtnmchplabaoflaaGreatDoor
