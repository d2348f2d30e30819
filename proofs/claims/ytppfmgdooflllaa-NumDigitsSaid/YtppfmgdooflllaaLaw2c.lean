/- The walk of NumDigits. -/
import Derived.Test.YtppfmgdooflllaaLaw2
namespace Go.Proofs.Ytppfmgdooflllaa
open Go.RowKit
set_option linter.unusedVariables false

namespace Num
/-- Zeros ahead make no difference to a cursor. -/
theorem num_zeros (z : Nat) (l : List UInt8) : num (List.replicate z 48 ++ l) 0 = num l 0 := by
  induction z with
  | zero => simp
  | succ z ih =>
    rw [List.replicate_succ, List.cons_append, num_cons]
    exact ih
theorem cur_zeros (z u : Nat) (h : u < 18446744073709551616) (hl : z + (uns u).length ≤ 20) : cur (List.replicate z 48 ++ uns u) = some u := by
  have h1 := uns_length u
  unfold cur
  rw [if_neg (by rw [List.length_append, List.length_replicate]; omega), cgo_digs _ _ ?_ ?_, num_zeros, num_uns u h]
  · intro c hc
    rcases List.mem_append.1 hc with hc | hc
    · rw [List.eq_of_mem_replicate hc]; decide
    · exact digs_uns u c hc
  · rw [num_zeros, num_uns u h]; exact h
/-- A zero ahead is no way to write a number. -/
theorem prs_zero_none (u : Nat) (h : u < 18446744073709551616) : prs (48 :: uns u) = none := by
  have hb : below (48 :: uns u) = false := rfl
  have hr : rest (48 :: uns u) = 48 :: uns u := by unfold rest; rw [if_neg (by rw [hb]; decide)]
  unfold prs
  rw [hr]
  rcases hc : cur (48 :: uns u) with _ | x
  · rfl
  · obtain ⟨hd, hx, hlt, _, hl⟩ := cur_some hc
    have hxu : x = u := by rw [hx]; have := num_zeros 1 (uns u); rw [num_uns u h] at this; exact this
    subst hxu
    simp only
    rw [if_neg]
    intro hf
    have hv : val (48 :: uns x) x = sig x := val_f x hb
    rw [hv] at hf
    by_cases hs : sig x < 0
    · unfold fmt at hf; rw [if_pos hs] at hf
      injection hf with h1 _
      exact absurd h1 (by decide)
    · have hsx : sig x = x := by
        unfold sig at hs ⊢
        split
        · rfl
        · rename_i h2
          rw [if_neg h2] at hs
          omega
      unfold fmt at hf
      rw [if_neg hs, hsx, Int.toNat_natCast] at hf
      have := congrArg List.length hf
      simp at this
theorem fmt_neg {a : Int} (h : 0 < a) : fmt (-a) = 45 :: fmt a := by
  unfold fmt
  rw [if_pos (by omega), if_neg (by omega)]
  congr 1
  congr 1
  omega
end Num

set_option maxHeartbeats 400000 in
theorem mayParse_none (s : ByteArray) (w : World) (hl : s.size ≤ maxLen) (h : Num.prs s.data.toList = none) :
    Calls Try.prog 21 #[.string s] w fun e w' => e = .returned (.bool false) ∧ Below w.heap.size w w' := by
  have H := Lib.hid h
  clear h
  go_enter Try.func21, Try.ntmps21
  go_wp2_with fail
  refine (parse_none s _ hl H.out).mono ?_
  rintro e w1 ⟨rfl, hb1⟩
  go_wp2_with fail
  go_ret
  exact ⟨rfl, hb1⟩

theorem zeros_str (z : Nat) (h : z ≤ 20) (l : List UInt8) : (⟨#[48, 48, 48, 48, 48, 48, 48, 48, 48, 48, 48, 48, 48, 48, 48, 48, 48, 48, 48, 48]⟩ : ByteArray).extract 0 z ++ bs l = bs (List.replicate z 48 ++ l) := by
  rw [bs_extract, bs_append]
  congr 2
  show List.take (z - 0) (List.drop 0 (List.replicate 20 48)) = _
  rw [List.drop_zero, List.take_replicate]
  congr 1
  omega
theorem negate_some (a : Int) (w : World) (ha : -9223372036854775807 ≤ a) (ha2 : a ≤ 9223372036854775807) :
    Calls Try.prog 22 #[.int .i64 a] w fun e w' => e = .returned (.tuple #[.int .i64 (-a), .bool true]) ∧ w = w' :=
  (negate_any a w (by omega) ha2).mono fun e w' ⟨he, hw⟩ => ⟨by rw [he, show Num.neg a = some (-a) from if_neg (by omega)]; rfl, hw⟩
theorem negate_least (w : World) :
    Calls Try.prog 22 #[.int .i64 (-9223372036854775808)] w fun e w' => e = .returned (.tuple #[.int .i64 0, .bool false]) ∧ w = w' :=
  (negate_any _ w (by omega) (by omega)).mono fun e w' ⟨he, hw⟩ => ⟨by rw [he, show Num.neg (-9223372036854775808) = none from if_pos rfl]; rfl, hw⟩

set_option maxHeartbeats 8000000 in
theorem numDigits_walk (a zeros : Int) (w : World) (ha : -9223372036854775808 ≤ a ∧ a ≤ 9223372036854775807) (hz : -9223372036854775808 ≤ zeros ∧ zeros ≤ 9223372036854775807) :
    Calls Try.prog 5 #[.int .i64 a, .int .i64 zeros] w fun e w' => e = .returned (.bool true) ∧ Below w.heap.size w w' := by
  obtain ⟨u, hu⟩ : ∃ u : Nat, IntKind.u64.wrap a = (u : Int) := ⟨(IntKind.u64.wrap a).toNat, by rw [IntKind.wrap_u64]; omega⟩
  have hul : u < 18446744073709551616 := by rw [IntKind.wrap_u64] at hu; omega
  have hlen := Num.uns_length u
  have hfl := Num.fmt_length a
  have hfl2 := Num.fmt_length (-a)
  have Hm := Lib.hid (Num.prs_zero_none u hul)
  have Hcz := Lib.hid (fun z h => Num.cur_zeros z u hul h)
  have hadd0 : ∀ w, (Op.stringOp .add (⟨#[48]⟩ : ByteArray) (bs (Num.uns u))).run Try.prog w = .ok (sv (48 :: Num.uns u)) w := fun w => (run_string_add_sum w _ _ (by rw [bs_size]; show 1 + _ ≤ _; omega)).trans (by rw [show (⟨#[48]⟩ : ByteArray) = bs [48] from rfl, bs_append]; rfl)
  have hadd1 : ∀ w, (Op.stringOp .add (⟨#[45]⟩ : ByteArray) (bs (Num.fmt a))).run Try.prog w = .ok (sv (45 :: Num.fmt a)) w := fun w => (run_string_add_sum w _ _ (by rw [bs_size]; show 1 + _ ≤ _; omega)).trans (by rw [show (⟨#[45]⟩ : ByteArray) = bs [45] from rfl, bs_append]; rfl)
  have hadd2 : ∀ w, (Op.stringOp .add (⟨#[45]⟩ : ByteArray) (bs (Num.fmt (-a)))).run Try.prog w = .ok (sv (45 :: Num.fmt (-a))) w := fun w => (run_string_add_sum w _ _ (by rw [bs_size]; show 1 + _ ≤ _; omega)).trans (by rw [show (⟨#[45]⟩ : ByteArray) = bs [45] from rfl, bs_append]; rfl)
  go_enter Try.func5, Try.ntmps5
  go_wp2_with fail
  refine (unsigned_any u _ hul).mono ?_
  rintro e w1 ⟨rfl, hb1⟩
  go_wp2_with fail
  · refine (within_nat zeros _ _ hz (by omega) (by omega)).mono ?_
    rintro e w2 ⟨z, hzb, rfl, rfl⟩
    have hzl : z + (Num.uns u).length ≤ 20 := by omega
    clear hzb
    have hz20 : z ≤ 20 := by omega
    have Hzs := Lib.hid (zeros_str z hz20 (Num.uns u))
    have Hzc := Lib.hid (Hcz.out z hzl)
    go_wp2_with fail
    refine (cursor_some _ u _ (by rw [Hzs.out, bs_size]; simp only [List.length_append, List.length_replicate]; unfold maxLen; omega) (by rw [Hzs.out, bs_data]; exact Hzc.out)).mono ?_
    rintro e w3 ⟨rfl, rfl⟩
    by_cases hz0 : 0 < z
    · have hs : (Num.uns u == [48]) = true ∨ (Num.uns u == [48]) = false := by cases (Num.uns u == [48]) <;> simp
      rcases hs with hs | hs
      · have hbz := hb1
        have hu0 : u = 0 := by have := Num.num_uns u hul; rw [beq_iff_eq.1 hs] at this; exact this.symm
        have ha0 : a = 0 := by subst hu0; rw [IntKind.wrap_u64] at hu; omega
        subst ha0
        go_wp2_with fail
        refine (negate_some _ _ (by omega) (by omega)).mono ?_
        rintro e w5 ⟨rfl, rfl⟩
        rw [Int.neg_zero]
        go_wp2_with fail
        refine (format_any _ _ (by omega) (by omega)).mono ?_
        rintro e w6 ⟨rfl, hb6⟩
        go_wp2_with fail
        refine (format_any _ _ (by omega) (by omega)).mono ?_
        rintro e w7 ⟨rfl, hb7⟩
        go_wp2_with fail
        refine (known2_any _).mono ?_
        rintro e w8 ⟨rfl, hb8⟩
        go_wp2_with fail
        go_ret
        exact ⟨rfl, below_trans (below_trans (below_trans hbz hb6) hb7) hb8⟩
      · go_wp2_with fail
        refine (mayParse_none _ _ (by rw [bs_size]; simp only [List.length_cons]; unfold maxLen; omega) (by rw [bs_data]; exact Hm.out)).mono ?_
        rintro e w4 ⟨rfl, hb4⟩
        have hbz := below_trans hb1 hb4
        go_wp2_with fail
        rcases (show a = -9223372036854775808 ∨ a = 0 ∨ 0 < a ∨ (-9223372036854775808 < a ∧ a < 0) from by omega) with rfl | rfl | hp | hp
        · refine (negate_least _).mono ?_
          rintro e w5 ⟨rfl, rfl⟩
          go_wp2_with fail
          refine (known2_any _).mono ?_
          rintro e w7 ⟨rfl, hb7⟩
          go_wp2_with fail
          go_ret
          exact ⟨rfl, below_trans hbz hb7⟩
        · refine (negate_some _ _ (by omega) (by omega)).mono ?_
          rintro e w5 ⟨rfl, rfl⟩
          rw [Int.neg_zero]
          go_wp2_with fail
          refine (format_any _ _ (by omega) (by omega)).mono ?_
          rintro e w6 ⟨rfl, hb6⟩
          go_wp2_with fail
          refine (format_any _ _ (by omega) (by omega)).mono ?_
          rintro e w7 ⟨rfl, hb7⟩
          go_wp2_with fail
          refine (known2_any _).mono ?_
          rintro e w8 ⟨rfl, hb8⟩
          go_wp2_with fail
          go_ret
          exact ⟨rfl, below_trans (below_trans (below_trans hbz hb6) hb7) hb8⟩
        · have he : (Num.fmt (-a) == 45 :: Num.fmt a) = true := beq_iff_eq.2 (Num.fmt_neg hp)
          refine (negate_some _ _ (by omega) (by omega)).mono ?_
          rintro e w5 ⟨rfl, rfl⟩
          go_wp2_with fail
          refine (format_any _ _ (by omega) (by omega)).mono ?_
          rintro e w6 ⟨rfl, hb6⟩
          go_wp2_with fail
          refine (format_any _ _ (by omega) (by omega)).mono ?_
          rintro e w7 ⟨rfl, hb7⟩
          go_wp2_with fail
          refine (known2_any _).mono ?_
          rintro e w8 ⟨rfl, hb8⟩
          go_wp2_with fail
          go_ret
          exact ⟨rfl, below_trans (below_trans (below_trans hbz hb6) hb7) hb8⟩
        · have he : (Num.fmt a == 45 :: Num.fmt (-a)) = true := beq_iff_eq.2 (by have := Num.fmt_neg (a := -a) (by omega); rwa [Int.neg_neg] at this)
          refine (negate_some _ _ (by omega) (by omega)).mono ?_
          rintro e w5 ⟨rfl, rfl⟩
          go_wp2_with fail
          refine (format_any _ _ (by omega) (by omega)).mono ?_
          rintro e w6 ⟨rfl, hb6⟩
          go_wp2_with fail
          refine (format_any _ _ (by omega) (by omega)).mono ?_
          rintro e w7 ⟨rfl, hb7⟩
          go_wp2_with fail
          refine (known2_any _).mono ?_
          rintro e w8 ⟨rfl, hb8⟩
          go_wp2_with fail
          go_ret
          exact ⟨rfl, below_trans (below_trans (below_trans hbz hb6) hb7) hb8⟩
    · have hbz := hb1
      go_wp2_with fail
      rcases (show a = -9223372036854775808 ∨ a = 0 ∨ 0 < a ∨ (-9223372036854775808 < a ∧ a < 0) from by omega) with rfl | rfl | hp | hp
      · refine (negate_least _).mono ?_
        rintro e w5 ⟨rfl, rfl⟩
        go_wp2_with fail
        refine (known2_any _).mono ?_
        rintro e w7 ⟨rfl, hb7⟩
        go_wp2_with fail
        go_ret
        exact ⟨rfl, below_trans hbz hb7⟩
      · refine (negate_some _ _ (by omega) (by omega)).mono ?_
        rintro e w5 ⟨rfl, rfl⟩
        rw [Int.neg_zero]
        go_wp2_with fail
        refine (format_any _ _ (by omega) (by omega)).mono ?_
        rintro e w6 ⟨rfl, hb6⟩
        go_wp2_with fail
        refine (format_any _ _ (by omega) (by omega)).mono ?_
        rintro e w7 ⟨rfl, hb7⟩
        go_wp2_with fail
        refine (known2_any _).mono ?_
        rintro e w8 ⟨rfl, hb8⟩
        go_wp2_with fail
        go_ret
        exact ⟨rfl, below_trans (below_trans (below_trans hbz hb6) hb7) hb8⟩
      · have he : (Num.fmt (-a) == 45 :: Num.fmt a) = true := beq_iff_eq.2 (Num.fmt_neg hp)
        refine (negate_some _ _ (by omega) (by omega)).mono ?_
        rintro e w5 ⟨rfl, rfl⟩
        go_wp2_with fail
        refine (format_any _ _ (by omega) (by omega)).mono ?_
        rintro e w6 ⟨rfl, hb6⟩
        go_wp2_with fail
        refine (format_any _ _ (by omega) (by omega)).mono ?_
        rintro e w7 ⟨rfl, hb7⟩
        go_wp2_with fail
        refine (known2_any _).mono ?_
        rintro e w8 ⟨rfl, hb8⟩
        go_wp2_with fail
        go_ret
        exact ⟨rfl, below_trans (below_trans (below_trans hbz hb6) hb7) hb8⟩
      · have he : (Num.fmt a == 45 :: Num.fmt (-a)) = true := beq_iff_eq.2 (by have := Num.fmt_neg (a := -a) (by omega); rwa [Int.neg_neg] at this)
        refine (negate_some _ _ (by omega) (by omega)).mono ?_
        rintro e w5 ⟨rfl, rfl⟩
        go_wp2_with fail
        refine (format_any _ _ (by omega) (by omega)).mono ?_
        rintro e w6 ⟨rfl, hb6⟩
        go_wp2_with fail
        refine (format_any _ _ (by omega) (by omega)).mono ?_
        rintro e w7 ⟨rfl, hb7⟩
        go_wp2_with fail
        refine (known2_any _).mono ?_
        rintro e w8 ⟨rfl, hb8⟩
        go_wp2_with fail
        go_ret
        exact ⟨rfl, below_trans (below_trans (below_trans hbz hb6) hb7) hb8⟩
  · refine (within_nat zeros _ _ hz (by omega) (by omega)).mono ?_
    rintro e w2 ⟨z, hzb, rfl, rfl⟩
    have hzl : z + (Num.uns u).length ≤ 20 := by omega
    clear hzb
    have hz20 : z ≤ 20 := by omega
    have Hzs := Lib.hid (zeros_str z hz20 (Num.uns u))
    have Hzc := Lib.hid (Hcz.out z hzl)
    go_wp2_with fail
    refine (cursor_some _ u _ (by rw [Hzs.out, bs_size]; simp only [List.length_append, List.length_replicate]; unfold maxLen; omega) (by rw [Hzs.out, bs_data]; exact Hzc.out)).mono ?_
    rintro e w3 ⟨rfl, rfl⟩
    have hz0 : ¬ 0 < z := by omega
    have hbz := hb1
    go_wp2_with fail
    rcases (show a = -9223372036854775808 ∨ a = 0 ∨ 0 < a ∨ (-9223372036854775808 < a ∧ a < 0) from by omega) with rfl | rfl | hp | hp
    · refine (negate_least _).mono ?_
      rintro e w5 ⟨rfl, rfl⟩
      go_wp2_with fail
      refine (known2_any _).mono ?_
      rintro e w7 ⟨rfl, hb7⟩
      go_wp2_with fail
      go_ret
      exact ⟨rfl, below_trans hbz hb7⟩
    · refine (negate_some _ _ (by omega) (by omega)).mono ?_
      rintro e w5 ⟨rfl, rfl⟩
      rw [Int.neg_zero]
      go_wp2_with fail
      refine (format_any _ _ (by omega) (by omega)).mono ?_
      rintro e w6 ⟨rfl, hb6⟩
      go_wp2_with fail
      refine (format_any _ _ (by omega) (by omega)).mono ?_
      rintro e w7 ⟨rfl, hb7⟩
      go_wp2_with fail
      refine (known2_any _).mono ?_
      rintro e w8 ⟨rfl, hb8⟩
      go_wp2_with fail
      go_ret
      exact ⟨rfl, below_trans (below_trans (below_trans hbz hb6) hb7) hb8⟩
    · have he : (Num.fmt (-a) == 45 :: Num.fmt a) = true := beq_iff_eq.2 (Num.fmt_neg hp)
      refine (negate_some _ _ (by omega) (by omega)).mono ?_
      rintro e w5 ⟨rfl, rfl⟩
      go_wp2_with fail
      refine (format_any _ _ (by omega) (by omega)).mono ?_
      rintro e w6 ⟨rfl, hb6⟩
      go_wp2_with fail
      refine (format_any _ _ (by omega) (by omega)).mono ?_
      rintro e w7 ⟨rfl, hb7⟩
      go_wp2_with fail
      refine (known2_any _).mono ?_
      rintro e w8 ⟨rfl, hb8⟩
      go_wp2_with fail
      go_ret
      exact ⟨rfl, below_trans (below_trans (below_trans hbz hb6) hb7) hb8⟩
    · have he : (Num.fmt a == 45 :: Num.fmt (-a)) = true := beq_iff_eq.2 (by have := Num.fmt_neg (a := -a) (by omega); rwa [Int.neg_neg] at this)
      refine (negate_some _ _ (by omega) (by omega)).mono ?_
      rintro e w5 ⟨rfl, rfl⟩
      go_wp2_with fail
      refine (format_any _ _ (by omega) (by omega)).mono ?_
      rintro e w6 ⟨rfl, hb6⟩
      go_wp2_with fail
      refine (format_any _ _ (by omega) (by omega)).mono ?_
      rintro e w7 ⟨rfl, hb7⟩
      go_wp2_with fail
      refine (known2_any _).mono ?_
      rintro e w8 ⟨rfl, hb8⟩
      go_wp2_with fail
      go_ret
      exact ⟨rfl, below_trans (below_trans (below_trans hbz hb6) hb7) hb8⟩
end Go.Proofs.Ytppfmgdooflllaa
