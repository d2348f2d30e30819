/- The walks of the statements of layer 2. -/
import Derived.Test.YtppfmgdooflllaaNum
import Derived.Test.YtppfmgdooflllaaRef2
import Derived.Test.YtppfmgdooflllaaKeep
namespace Go.Proofs.Ytppfmgdooflllaa
open Go.RowKit
set_option linter.unusedVariables false

set_option maxHeartbeats 400000 in
theorem known2_any (w : World) :
    Calls Try.prog 18 #[] w fun e w' => e = .returned (.bool true) ∧ Below w.heap.size w w' := by
  go_enter Try.func18, Try.ntmps18
  go_wp2_with fail
  refine (parse_none ⟨#[45, 48]⟩ _ (by decide) (by decide +kernel)).mono ?_
  rintro e w1 ⟨rfl, hb1⟩
  go_wp2_with fail
  refine (parse_none ⟨#[48, 48, 55]⟩ _ (by decide) (by decide +kernel)).mono ?_
  rintro e w2 ⟨rfl, hb2⟩
  go_wp2_with fail
  refine (parse_none ⟨#[43, 49]⟩ _ (by decide) (by decide +kernel)).mono ?_
  rintro e w3 ⟨rfl, hb3⟩
  go_wp2_with fail
  refine (parse_some ⟨#[45, 57, 50, 50, 51, 51, 55, 50, 48, 51, 54, 56, 53, 52, 55, 55, 53, 56, 48, 56]⟩ (-9223372036854775808) _ (by decide) (by decide +kernel)).mono ?_
  rintro e w4 ⟨rfl, hb4⟩
  go_wp2_with fail
  go_ret
  exact ⟨rfl, below_trans (below_trans (below_trans hb1 hb2) hb3) hb4⟩

set_option maxHeartbeats 400000 in
theorem numBack_walk (a u : Int) (s : ByteArray) (w : World) (ha : -9223372036854775808 ≤ a ∧ a ≤ 9223372036854775807) (hu : 0 ≤ u ∧ u < 18446744073709551616) (hs : s.size ≤ maxLen) :
    Calls Try.prog 3 #[.int .i64 a, .int .u64 u, .string s] w fun e w' => e = .returned (.bool true) ∧ Below w.heap.size w w' := by
  obtain ⟨u, rfl⟩ := Int.eq_ofNat_of_zero_le hu.1
  have hfl := Num.fmt_length a
  have hul := Num.uns_length u
  have Hp := Lib.hid (Num.prs_fmt a ha.1 ha.2)
  have Hc := Lib.hid (Num.cur_uns u (by omega))
  rcases hps : Num.prs s.data.toList with _ | m
  all_goals
    have Hs := Lib.hid hps
    clear hps
    go_enter Try.func3, Try.ntmps3
    go_wp2_with fail
    refine (format_any a _ ha.1 ha.2).mono ?_
    rintro e w1 ⟨rfl, hb1⟩
    go_wp2_with fail
    refine (parse_some _ a _ (by rw [bs_size]; unfold maxLen; omega) (by rw [bs_data]; exact Hp.out)).mono ?_
    rintro e w2 ⟨rfl, hb2⟩
    go_wp2_with fail
    refine (unsigned_any u _ (by omega)).mono ?_
    rintro e w3 ⟨rfl, hb3⟩
    go_wp2_with fail
    refine (cursor_some _ u _ (by rw [bs_size]; unfold maxLen; omega) (by rw [bs_data]; exact Hc.out)).mono ?_
    rintro e w4 ⟨rfl, rfl⟩
    go_wp2_with fail
  · refine (parse_none s _ hs Hs.out).mono ?_
    rintro e w5 ⟨rfl, hb5⟩
    go_wp2_with fail
    refine (known2_any _).mono ?_
    rintro e w6 ⟨rfl, hb6⟩
    go_wp2_with fail
    go_ret
    exact ⟨rfl, below_trans (below_trans (below_trans (below_trans hb1 hb2) hb3) hb5) hb6⟩
  · have hm := Num.prs_bd Hs.out
    have He : (Num.fmt m == s.toList) = true := by rw [Num.fmt_of_prs Hs.out, ByteArray.toList_eq]; exact beq_self_eq_true _
    refine (parse_some s m _ hs Hs.out).mono ?_
    rintro e w5 ⟨rfl, hb5⟩
    go_wp2_with fail
    refine (format_any m _ hm.1 hm.2).mono ?_
    rintro e w6 ⟨rfl, hb6⟩
    go_wp2_with fail
    refine (known2_any _).mono ?_
    rintro e w7 ⟨rfl, hb7⟩
    go_wp2_with fail
    go_ret
    exact ⟨rfl, below_trans (below_trans (below_trans (below_trans (below_trans hb1 hb2) hb3) hb5) hb6) hb7⟩
end Go.Proofs.Ytppfmgdooflllaa
