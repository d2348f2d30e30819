/- The walks of fault.words, Text and of the document's answer tallboyref1.Text. -/
import Derived.Test.YtnmchplabaoflaaGreatDoorFltF
namespace Go.Proofs.YtnmchplabaoflaaGreatDoor
open Go.RowKit Go.Shelf
set_option linter.unusedVariables false

set_option maxRecDepth 100000 in
theorem words_1 (w : World) : Calls Tryz.prog 40 #[.int .i64 1] w fun e w' => e = .returned (sv (tx 1 cmd3)) ∧ w = w' := by
  rw [tx_1]
  go_enter Tryz.func40, Tryz.ntmps40
  go_wp2
  go_ret
  exact ⟨rfl, rfl⟩
set_option maxRecDepth 100000 in
theorem words_2 (w : World) : Calls Tryz.prog 40 #[.int .i64 2] w fun e w' => e = .returned (sv (tx 2 cmd3)) ∧ w = w' := by
  rw [tx_2]
  go_enter Tryz.func40, Tryz.ntmps40
  go_wp2
  go_ret
  exact ⟨rfl, rfl⟩
set_option maxRecDepth 100000 in
theorem words_3 (w : World) : Calls Tryz.prog 40 #[.int .i64 3] w fun e w' => e = .returned (sv (tx 3 cmd3)) ∧ w = w' := by
  rw [tx_3]
  go_enter Tryz.func40, Tryz.ntmps40
  go_wp2
  go_ret
  exact ⟨rfl, rfl⟩
set_option maxRecDepth 100000 in
theorem words_4 (w : World) : Calls Tryz.prog 40 #[.int .i64 4] w fun e w' => e = .returned (sv (tx 4 cmd3)) ∧ w = w' := by
  rw [tx_4]
  go_enter Tryz.func40, Tryz.ntmps40
  go_wp2
  go_ret
  exact ⟨rfl, rfl⟩
set_option maxRecDepth 100000 in
theorem words_5 (w : World) : Calls Tryz.prog 40 #[.int .i64 5] w fun e w' => e = .returned (sv (tx 5 cmd3)) ∧ w = w' := by
  rw [tx_5]
  go_enter Tryz.func40, Tryz.ntmps40
  go_wp2
  go_ret
  exact ⟨rfl, rfl⟩
set_option maxRecDepth 100000 in
theorem words_6 (w : World) : Calls Tryz.prog 40 #[.int .i64 6] w fun e w' => e = .returned (sv (tx 6 cmd3)) ∧ w = w' := by
  rw [tx_6]
  go_enter Tryz.func40, Tryz.ntmps40
  go_wp2
  go_ret
  exact ⟨rfl, rfl⟩
set_option maxRecDepth 100000 in
theorem words_7 (w : World) : Calls Tryz.prog 40 #[.int .i64 7] w fun e w' => e = .returned (sv (tx 7 cmd3)) ∧ w = w' := by
  rw [tx_7]
  go_enter Tryz.func40, Tryz.ntmps40
  go_wp2
  go_ret
  exact ⟨rfl, rfl⟩
set_option maxRecDepth 100000 in
theorem words_8 (w : World) : Calls Tryz.prog 40 #[.int .i64 8] w fun e w' => e = .returned (sv (tx 8 cmd3)) ∧ w = w' := by
  rw [tx_8]
  go_enter Tryz.func40, Tryz.ntmps40
  go_wp2
  go_ret
  exact ⟨rfl, rfl⟩
set_option maxRecDepth 100000 in
theorem words_9 (w : World) : Calls Tryz.prog 40 #[.int .i64 9] w fun e w' => e = .returned (sv (tx 9 cmd3)) ∧ w = w' := by
  rw [tx_9]
  go_enter Tryz.func40, Tryz.ntmps40
  go_wp2
  go_ret
  exact ⟨rfl, rfl⟩
set_option maxRecDepth 100000 in
theorem words_10 (w : World) : Calls Tryz.prog 40 #[.int .i64 10] w fun e w' => e = .returned (sv (tx 10 cmd3)) ∧ w = w' := by
  rw [tx_10]
  go_enter Tryz.func40, Tryz.ntmps40
  go_wp2
  go_ret
  exact ⟨rfl, rfl⟩
set_option maxRecDepth 100000 in
theorem words_11 (w : World) : Calls Tryz.prog 40 #[.int .i64 11] w fun e w' => e = .returned (sv (tx 11 cmd3)) ∧ w = w' := by
  rw [tx_11]
  go_enter Tryz.func40, Tryz.ntmps40
  go_wp2
  go_ret
  exact ⟨rfl, rfl⟩
set_option maxRecDepth 100000 in
theorem words_12 (w : World) : Calls Tryz.prog 40 #[.int .i64 12] w fun e w' => e = .returned (sv (tx 12 cmd3)) ∧ w = w' := by
  rw [tx_12]
  go_enter Tryz.func40, Tryz.ntmps40
  go_wp2
  go_ret
  exact ⟨rfl, rfl⟩
set_option maxRecDepth 100000 in
theorem words_13 (w : World) : Calls Tryz.prog 40 #[.int .i64 13] w fun e w' => e = .returned (sv (tx 13 cmd3)) ∧ w = w' := by
  rw [tx_13]
  go_enter Tryz.func40, Tryz.ntmps40
  go_wp2
  go_ret
  exact ⟨rfl, rfl⟩
set_option maxRecDepth 100000 in
theorem words_14 (w : World) : Calls Tryz.prog 40 #[.int .i64 14] w fun e w' => e = .returned (sv (tx 14 cmd3)) ∧ w = w' := by
  rw [tx_14]
  go_enter Tryz.func40, Tryz.ntmps40
  go_wp2
  go_ret
  exact ⟨rfl, rfl⟩
set_option maxRecDepth 100000 in
theorem words_15 (w : World) : Calls Tryz.prog 40 #[.int .i64 15] w fun e w' => e = .returned (sv (tx 15 cmd3)) ∧ w = w' := by
  rw [tx_15]
  go_enter Tryz.func40, Tryz.ntmps40
  go_wp2
  go_ret
  exact ⟨rfl, rfl⟩
set_option maxRecDepth 100000 in
theorem words_16 (w : World) : Calls Tryz.prog 40 #[.int .i64 16] w fun e w' => e = .returned (sv (tx 16 cmd3)) ∧ w = w' := by
  rw [tx_16]
  go_enter Tryz.func40, Tryz.ntmps40
  go_wp2
  go_ret
  exact ⟨rfl, rfl⟩
set_option maxRecDepth 100000 in
theorem words_17 (w : World) : Calls Tryz.prog 40 #[.int .i64 17] w fun e w' => e = .returned (sv (tx 17 cmd3)) ∧ w = w' := by
  rw [tx_17]
  go_enter Tryz.func40, Tryz.ntmps40
  go_wp2
  go_ret
  exact ⟨rfl, rfl⟩
set_option maxRecDepth 100000 in
theorem words_18 (w : World) : Calls Tryz.prog 40 #[.int .i64 18] w fun e w' => e = .returned (sv (tx 18 cmd3)) ∧ w = w' := by
  rw [tx_18]
  go_enter Tryz.func40, Tryz.ntmps40
  go_wp2
  go_ret
  exact ⟨rfl, rfl⟩
set_option maxRecDepth 100000 in
theorem words_19 (w : World) : Calls Tryz.prog 40 #[.int .i64 19] w fun e w' => e = .returned (sv (tx 19 cmd3)) ∧ w = w' := by
  rw [tx_19]
  go_enter Tryz.func40, Tryz.ntmps40
  go_wp2
  go_ret
  exact ⟨rfl, rfl⟩
set_option maxRecDepth 100000 in
theorem words_20 (w : World) : Calls Tryz.prog 40 #[.int .i64 20] w fun e w' => e = .returned (sv (tx 20 cmd3)) ∧ w = w' := by
  rw [tx_20]
  go_enter Tryz.func40, Tryz.ntmps40
  go_wp2
  go_ret
  exact ⟨rfl, rfl⟩
set_option maxRecDepth 100000 in
theorem words_21 (w : World) : Calls Tryz.prog 40 #[.int .i64 21] w fun e w' => e = .returned (sv (tx 21 cmd3)) ∧ w = w' := by
  rw [tx_21]
  go_enter Tryz.func40, Tryz.ntmps40
  go_wp2
  go_ret
  exact ⟨rfl, rfl⟩
set_option maxRecDepth 100000 in
theorem words_22 (w : World) : Calls Tryz.prog 40 #[.int .i64 22] w fun e w' => e = .returned (sv (tx 22 cmd3)) ∧ w = w' := by
  rw [tx_22]
  go_enter Tryz.func40, Tryz.ntmps40
  go_wp2
  go_ret
  exact ⟨rfl, rfl⟩
set_option maxRecDepth 100000 in
theorem words_23 (w : World) : Calls Tryz.prog 40 #[.int .i64 23] w fun e w' => e = .returned (sv (tx 23 cmd3)) ∧ w = w' := by
  rw [tx_23]
  go_enter Tryz.func40, Tryz.ntmps40
  go_wp2
  go_ret
  exact ⟨rfl, rfl⟩
set_option maxRecDepth 100000 in
theorem words_24 (w : World) : Calls Tryz.prog 40 #[.int .i64 24] w fun e w' => e = .returned (sv (tx 24 cmd3)) ∧ w = w' := by
  rw [tx_24]
  go_enter Tryz.func40, Tryz.ntmps40
  go_wp2
  go_ret
  exact ⟨rfl, rfl⟩
set_option maxRecDepth 100000 in
theorem words_25 (w : World) : Calls Tryz.prog 40 #[.int .i64 25] w fun e w' => e = .returned (sv (tx 25 cmd3)) ∧ w = w' := by
  rw [tx_25]
  go_enter Tryz.func40, Tryz.ntmps40
  go_wp2
  go_ret
  exact ⟨rfl, rfl⟩
set_option maxRecDepth 100000 in
theorem words_other (c : Int) (h : ¬ c = 1 ∧ ¬ c = 2 ∧ ¬ c = 3 ∧ ¬ c = 4 ∧ ¬ c = 5 ∧ ¬ c = 6 ∧ ¬ c = 7 ∧ ¬ c = 8 ∧ ¬ c = 9 ∧ ¬ c = 10 ∧ ¬ c = 11 ∧ ¬ c = 12 ∧ ¬ c = 13 ∧ ¬ c = 14 ∧ ¬ c = 15 ∧ ¬ c = 16 ∧ ¬ c = 17 ∧ ¬ c = 18 ∧ ¬ c = 19 ∧ ¬ c = 20 ∧ ¬ c = 21 ∧ ¬ c = 22 ∧ ¬ c = 23 ∧ ¬ c = 24 ∧ ¬ c = 25) (w : World) : Calls Tryz.prog 40 #[.int .i64 c] w fun e w' => e = .returned (sv (tx c cmd3)) ∧ w = w' := by
  rw [tx_other c h]
  obtain ⟨h1, h2, h3, h4, h5, h6, h7, h8, h9, h10, h11, h12, h13, h14, h15, h16, h17, h18, h19, h20, h21, h22, h23, h24, h25⟩ := h
  have b1 : (c == 1) = false := by simpa using h1
  have b2 : (c == 2) = false := by simpa using h2
  have b3 : (c == 3) = false := by simpa using h3
  have b4 : (c == 4) = false := by simpa using h4
  have b5 : (c == 5) = false := by simpa using h5
  have b6 : (c == 6) = false := by simpa using h6
  have b7 : (c == 7) = false := by simpa using h7
  have b8 : (c == 8) = false := by simpa using h8
  have b9 : (c == 9) = false := by simpa using h9
  have b10 : (c == 10) = false := by simpa using h10
  have b11 : (c == 11) = false := by simpa using h11
  have b12 : (c == 12) = false := by simpa using h12
  have b13 : (c == 13) = false := by simpa using h13
  have b14 : (c == 14) = false := by simpa using h14
  have b15 : (c == 15) = false := by simpa using h15
  have b16 : (c == 16) = false := by simpa using h16
  have b17 : (c == 17) = false := by simpa using h17
  have b18 : (c == 18) = false := by simpa using h18
  have b19 : (c == 19) = false := by simpa using h19
  have b20 : (c == 20) = false := by simpa using h20
  have b21 : (c == 21) = false := by simpa using h21
  have b22 : (c == 22) = false := by simpa using h22
  have b23 : (c == 23) = false := by simpa using h23
  have b24 : (c == 24) = false := by simpa using h24
  have b25 : (c == 25) = false := by simpa using h25
  clear h1 h2 h3 h4 h5 h6 h7 h8 h9 h10 h11 h12 h13 h14 h15 h16 h17 h18 h19 h20 h21 h22 h23 h24 h25
  go_enter Tryz.func40, Tryz.ntmps40
  go_wp2
  go_ret
  exact ⟨rfl, rfl⟩
theorem words_any (c : Int) (w : World) : Calls Tryz.prog 40 #[.int .i64 c] w fun e w' => e = .returned (sv (tx c cmd3)) ∧ w = w' := by
  rcases codes_of c with rfl | rfl | rfl | rfl | rfl | rfl | rfl | rfl | rfl | rfl | rfl | rfl | rfl | rfl | rfl | rfl | rfl | rfl | rfl | rfl | rfl | rfl | rfl | rfl | rfl | h
  · exact words_1 w
  · exact words_2 w
  · exact words_3 w
  · exact words_4 w
  · exact words_5 w
  · exact words_6 w
  · exact words_7 w
  · exact words_8 w
  · exact words_9 w
  · exact words_10 w
  · exact words_11 w
  · exact words_12 w
  · exact words_13 w
  · exact words_14 w
  · exact words_15 w
  · exact words_16 w
  · exact words_17 w
  · exact words_18 w
  · exact words_19 w
  · exact words_20 w
  · exact words_21 w
  · exact words_22 w
  · exact words_23 w
  · exact words_24 w
  · exact words_25 w
  · exact words_other c h w

set_option maxRecDepth 100000 in
theorem text_any (c : Int) (s : List UInt8) (w : World) (hs : s.length ≤ 1000) (hm : My w) :
    Calls Tryz.prog 21 #[.int .i64 c, .string (bs s)] w fun e w' => e = .returned (sv (tx c (pln s))) ∧ Below w.heap.size w w' := by
  have hlen := tx_len c cmd3
  have hlen3 : (tx c cmd3).length ≤ 1000 := Nat.le_trans hlen (by decide)
  have HW := Lib.hid (words_any c w)
  have HC := Lib.hid (fun w1 h1 => contains_cmd (tx c cmd3) w1 (by omega) h1)
  have HP := Lib.hid (fun w1 => plain_any s w1 (by omega))
  have HR := Lib.hid (fun w1 h1 => replace_cmd (tx c cmd3) (pln s) w1 (by omega) (by rw [pln_len]; omega) h1)
  have HM := Lib.hid hm
  have Hh := Lib.hid (hasCmd c)
  have Hin := Lib.hid (inCmd c)
  have Hno := Lib.hid (noCmd c)
  clear hm hlen hlen3
  by_cases hc : c = 2 ∨ c = 3 ∨ c = 12
  · have hd := Hh.out
    rw [decide_eq_true hc] at hd
    have HE := Lib.hid (Hin.out hc (pln s))
    have HD := Lib.hid hd
    clear hd hc
    go_enter Tryz.func21, Tryz.ntmps21
    go_wp2_with fail
    refine HW.out.mono ?_
    rintro e w1 ⟨rfl, rfl⟩
    go_wp2_with fail
    refine (HC.out _ HM.out).mono ?_
    rintro e w1 ⟨rfl, rfl⟩
    rw [HD.out]
    go_wp2_with fail
    refine (HP.out _).mono ?_
    rintro e w2 ⟨rfl, hb2⟩
    have HB2 := Lib.hid hb2
    clear hb2
    go_wp2_with fail
    refine (HR.out _ (HM.out.below_ HB2.out)).mono ?_
    rintro e w3 ⟨rfl, hb3⟩
    have HB3 := Lib.hid hb3
    clear hb3
    rw [HE.out]
    go_wp2_with fail
    go_ret
    exact ⟨rfl, below_trans HB2.out HB3.out⟩
  · have hd := Hh.out
    rw [decide_eq_false hc] at hd
    have HE := Lib.hid (Hno.out hc cmd3 (pln s))
    have HD := Lib.hid hd
    clear hd hc
    go_enter Tryz.func21, Tryz.ntmps21
    go_wp2_with fail
    refine HW.out.mono ?_
    rintro e w1 ⟨rfl, rfl⟩
    go_wp2_with fail
    refine (HC.out _ HM.out).mono ?_
    rintro e w1 ⟨rfl, rfl⟩
    rw [HD.out]
    go_wp2_with fail
    go_ret
    exact ⟨by rw [← HE.out]; rfl, Below.refl _ _⟩
end Go.Proofs.YtnmchplabaoflaaGreatDoor
