/- The walk of TextRanges. -/
import Derived.Test.YtppfmgdooflllaaLaw11
import Derived.Deep.QuietTactic
import Derived.BigQuiet
namespace Go.Proofs.Ytppfmgdooflllaa
open Go.RowKit
set_option linter.unusedVariables false

namespace Tx
theorem laid_length (l : List UInt8) (k : Nat) (t : List UInt8) : (laid l k t).length = max l.length (k + t.length) := by
  unfold laid
  have := grown_length l (k + t.length)
  simp only [List.length_append, List.length_take, List.length_drop]
  omega
theorem grown_get (l : List UInt8) (n i : Nat) (hi : i < n) (hl : l.length ≤ i) : (grown l n)[i]? = some 0 := by
  unfold grown
  rw [List.getElem?_append_right hl, List.getElem?_replicate, if_pos (by omega)]
theorem grown_take (l : List UInt8) (n k : Nat) (hk : k ≤ l.length) : (grown l n).take k = l.take k := by
  unfold grown; rw [List.take_append_of_le_length hk]
theorem grown_same (l : List UInt8) (n : Nat) (h : n ≤ l.length) : grown l n = l := by
  unfold grown; rw [show n - l.length = 0 from by omega]; simp
theorem head_len (l : List UInt8) (k : Nat) (t : List UInt8) : ((grown l (k + t.length)).take k).length = k := by
  rw [List.length_take, grown_length]; omega
theorem laid_take (l : List UInt8) (k : Nat) (t : List UInt8) (n : Nat) (h1 : n ≤ k) (h2 : n ≤ l.length) : (laid l k t).take n = l.take n := by
  unfold laid
  rw [List.append_assoc, List.take_append_of_le_length (by rw [head_len]; exact h1), List.take_take, Nat.min_eq_left h1, grown_take l _ n h2]
theorem laid_drop (l : List UInt8) (k : Nat) (t : List UInt8) (h : k + t.length < l.length) : (laid l k t).drop (k + t.length) = l.drop (k + t.length) := by
  unfold laid
  rw [grown_same l _ (by omega)]
  exact List.drop_left' (by rw [List.length_append, List.length_take]; omega)
theorem laid_mid (l : List UInt8) (k : Nat) (t : List UInt8) : ((laid l k t).drop k).take t.length = t := by
  unfold laid
  rw [List.append_assoc, List.drop_append_of_le_length (by rw [head_len]; exact Nat.le_refl _), List.drop_of_length_le (by rw [head_len]; exact Nat.le_refl _), List.nil_append, List.take_append_of_le_length (Nat.le_refl _), List.take_length]
theorem laid_zero (l : List UInt8) (k : Nat) (t : List UInt8) (i : Nat) (h1 : l.length ≤ i) (h2 : i < k) : (laid l k t)[i]? = some 0 := by
  unfold laid
  rw [List.append_assoc, List.getElem?_append_left (by rw [head_len]; exact h2), List.getElem?_take, if_pos h2, grown_get l _ i (by omega) h1]
theorem range_between (l : List UInt8) (a b : Nat) (h : a ≤ b) (hb : b < l.length) : range l a b = (l.drop a).take (b + 1 - a) := by
  have hlo : lo (a : Int) (b : Int) l.length = (a : Int) := by unfold lo s1 s2; (repeat' split) <;> omega
  have hhi : hi (a : Int) (b : Int) l.length = (b : Int) + 1 := by unfold hi s1 s2; (repeat' split) <;> omega
  unfold range
  rw [hlo, hhi, show ((b : Int) + 1).toNat = b + 1 from by omega, Int.toNat_natCast]
end Tx

set_option maxHeartbeats 4000000 in
theorem textRanges_walk (s t : ByteArray) (at' : Int) (w : World) (hs : s.size ≤ maxLen) (ht : t.size ≤ maxLen) (ha : -9223372036854775808 ≤ at' ∧ at' ≤ 9223372036854775807) :
    Calls Try.prog 8 #[.string s, .string t, .int .i64 at'] w fun e w' => e = .returned (.bool true) ∧ Below w.heap.size w w' := by
  obtain ⟨S, hS⟩ : ∃ S, S = s.data.toList.take 60 := ⟨_, rfl⟩
  obtain ⟨T, hT⟩ : ∃ T, T = t.data.toList.take 30 := ⟨_, rfl⟩
  have hSl : S.length ≤ 60 := by rw [hS, List.length_take]; omega
  have hTl : T.length ≤ 30 := by rw [hT, List.length_take]; omega
  have hs1 : (bs S).size ≤ 1048576 := by rw [bs_size]; omega
  have ht1 : (bs T).size ≤ 1048576 := by rw [bs_size]; omega
  have Hc1 := Lib.hid (cut_any s 60 w hs (by omega))
  have Hc2 := Lib.hid (cut_any t 30 w ht (by omega))
  rw [← hS] at Hc1
  rw [← hT] at Hc2
  clear hS hT
  go_enter Try.func8, Try.ntmps8
  go_wp2_with fail
  refine Hc1.out.mono ?_
  rintro e w1 ⟨rfl, rfl⟩
  go_wp2_with fail
  refine Hc2.out.mono ?_
  rintro e w1 ⟨rfl, rfl⟩
  clear Hc1 Hc2
  go_wp2_with fail
  refine (within_nat at' 100 _ ha (by omega) (by omega)).mono ?_
  rintro e w1 ⟨k, hk, rfl, rfl⟩
  by_cases h0 : T.length = 0
  · have H : Hid (Tx.setRange (bs S).data.toList (k : Int) (bs T).data.toList = (S, 0)) := Lib.hid (by rw [bs_data, bs_data]; unfold Tx.setRange; rw [if_neg (by omega), if_pos h0])
    have h0' : ((T.length : Int) == 0) = true := by rw [h0]; rfl
    clear h0
    go_wp2_with fail
    refine (setRange_is (bs S) k (bs T) _ S 0 hs1 (by omega) ht1 H.out).mono ?_
    rintro e w2 ⟨rfl, hb2⟩
    go_wp2_with fail
    refine (known11_any _).mono ?_
    rintro e w9 ⟨rfl, hb9⟩
    go_wp2_with fail
    go_ret
    exact ⟨rfl, below_trans hb2 hb9⟩
  · have h0' : ((T.length : Int) == 0) = false := by rw [beq_eq_false_iff_ne]; omega
    obtain ⟨X, hX⟩ : ∃ X, X = Tx.laid S k T := ⟨_, rfl⟩
    have H : Hid (Tx.setRange (bs S).data.toList (k : Int) (bs T).data.toList = (X, 0)) := Lib.hid (by rw [bs_data, bs_data, hX]; unfold Tx.setRange; rw [if_neg (by omega), if_neg h0, if_neg (by omega), Int.toNat_natCast])
    have hXl := Tx.laid_length S k T
    rw [← hX] at hXl
    have hXl1 : S.length ≤ X.length := by omega
    have hXl2 : k + T.length ≤ X.length := by omega
    have hXl3 : X.length ≤ 200 := by omega
    have hx1 : (bs X).size ≤ maxLen := by rw [bs_size]; unfold maxLen; omega
    have hT0 : 0 < T.length := by omega
    have Hr : Hid (Tx.range (bs X).data.toList (k : Int) ((k : Int) + T.length - 1) = T) := Lib.hid (by
      rw [bs_data, show (k : Int) + T.length - 1 = ((k + T.length - 1 : Nat) : Int) from by omega, Tx.range_between X k _ (by omega) (by omega), show k + T.length - 1 + 1 - k = T.length from by omega, hX, Tx.laid_mid])
    have hz : Hid (∀ i, S.length ≤ i → i < k → X[i]? = some 0) := Lib.hid (fun i h1 h2 => by rw [hX, Tx.laid_zero S k T i h1 h2])
    have Ht : Hid (∀ n, n ≤ k → n ≤ S.length → X.take n = S.take n) := Lib.hid (fun n h1 h2 => by rw [hX, Tx.laid_take S k T n h1 h2])
    have Hd : Hid (k + T.length < S.length → X.drop (k + T.length) = S.drop (k + T.length)) := Lib.hid (fun h => by rw [hX, Tx.laid_drop S k T h])
    clear h0 hX hXl
    go_wp2_with fail
    refine (setRange_is (bs S) k (bs T) _ X 0 hs1 (by omega) ht1 H.out).mono ?_
    rintro e w2 ⟨rfl, hb2⟩
    go_wp2_with fail
    refine (range_is (bs X) k ((k : Int) + T.length - 1) _ T (by omega) (by omega) hx1 Hr.out).mono ?_
    rintro e w3 ⟨rfl, rfl⟩
    by_cases hks : S.length < k
    · have e1 : (bs X).extract 0 S.length = bs S := by rw [bs_extract, bs_data, List.drop_zero, Nat.sub_zero, Ht.out _ (by omega) (Nat.le_refl _), List.take_length]
      have e2 : (bs S).extract 0 S.length = bs S := by rw [bs_extract, bs_data, List.drop_zero, Nat.sub_zero, List.take_length]
      have hnot : ¬ k + T.length < S.length := by omega
      have hguard : decide ((k : Int) + T.length < S.length) = false := by rw [decide_eq_false_iff_not]; omega
      have hsx : S.length ≤ X.length := by omega
      clear Ht Hd Hr
      go_wp2_with fail
      go_quiet (fail)
      go_wp2_with fail
      go_loop [11] (fun i => ∃ j : Nat, S.length ≤ j ∧ j ≤ k ∧ i = .int .i64 j) (fun i => k - (intOf i).toNat)
      case atStart => exact ⟨S.length, Nat.le_refl _, by omega, rfl⟩
      case round =>
        obtain ⟨j, hj1, hj2, rfl⟩ := hrel
        by_cases hjk : j < k
        · have hjx : j < X.length := by omega
          have hx0 : ((bs X)[j]'(by rw [bs_size]; exact hjx)).toNat = 0 := by
            have := hz.out j (by omega) hjk
            rw [List.getElem?_eq_getElem hjx] at this
            injection this with this
            show (X[j]).toNat = 0
            rw [this]; rfl
          go_wp2_with fail
          go_round
          case rel => exact ⟨j + 1, by omega, by omega, by go_num⟩
          case measure => simp [intOf]; omega
        · go_wp2_with fail
          refine (known11_any _).mono ?_
          rintro e w9 ⟨rfl, hb9⟩
          go_wp2_with fail
          go_ret
          exact ⟨rfl, below_trans (⟨hb2.os, hb2.tape, hb2.output, hb2.size, hb2.block⟩ : Below w.heap.size w (w2.drewN nq)) hb9⟩
    · have e1 : (bs X).extract 0 k = bs (S.take k) := by rw [bs_extract, bs_data, List.drop_zero, Nat.sub_zero, Ht.out k (Nat.le_refl _) (by omega)]
      have e2 : (bs S).extract 0 k = bs (S.take k) := by rw [bs_extract, bs_data, List.drop_zero, Nat.sub_zero]
      have hkx : k ≤ X.length := by omega
      by_cases hg : k + T.length < S.length
      · have hguard : decide ((k : Int) + T.length < S.length) = true := by rw [decide_eq_true_iff]; omega
        have e3 : (bs X).extract (k + T.length) X.length = bs (S.drop (k + T.length)) := by rw [bs_extract, bs_data, List.take_of_length_le (by rw [List.length_drop]; exact Nat.le_refl _), Hd.out hg]
        have e4 : (bs S).extract (k + T.length) S.length = bs (S.drop (k + T.length)) := by rw [bs_extract, bs_data, List.take_of_length_le (by rw [List.length_drop]; exact Nat.le_refl _)]
        clear Ht Hd Hr
        go_wp2_with fail
        go_quiet (fail)
        go_wp2_with fail
        go_loop [11] (fun i => ∃ j : Nat, k ≤ j ∧ j ≤ k ∧ i = .int .i64 j) (fun i => k - (intOf i).toNat)
        case atStart => exact ⟨k, Nat.le_refl _, by omega, rfl⟩
        case round =>
          obtain ⟨j, hj1, hj2, rfl⟩ := hrel
          by_cases hjk : j < k
          · have hjx : j < X.length := by omega
            have hx0 : ((bs X)[j]'(by rw [bs_size]; exact hjx)).toNat = 0 := by
              have := hz.out j (by omega) hjk
              rw [List.getElem?_eq_getElem hjx] at this
              injection this with this
              show (X[j]).toNat = 0
              rw [this]; rfl
            go_wp2_with fail
            go_round
            case rel => exact ⟨j + 1, by omega, by omega, by go_num⟩
            case measure => simp [intOf]; omega
          · go_wp2_with fail
            refine (known11_any _).mono ?_
            rintro e w9 ⟨rfl, hb9⟩
            go_wp2_with fail
            go_ret
            exact ⟨rfl, below_trans (⟨hb2.os, hb2.tape, hb2.output, hb2.size, hb2.block⟩ : Below w.heap.size w (w2.drewN nq)) hb9⟩
      · have hguard : decide ((k : Int) + T.length < S.length) = false := by rw [decide_eq_false_iff_not]; omega
        clear Ht Hd Hr
        go_wp2_with fail
        go_quiet (fail)
        go_wp2_with fail
        go_loop [11] (fun i => ∃ j : Nat, k ≤ j ∧ j ≤ k ∧ i = .int .i64 j) (fun i => k - (intOf i).toNat)
        case atStart => exact ⟨k, Nat.le_refl _, by omega, rfl⟩
        case round =>
          obtain ⟨j, hj1, hj2, rfl⟩ := hrel
          by_cases hjk : j < k
          · have hjx : j < X.length := by omega
            have hx0 : ((bs X)[j]'(by rw [bs_size]; exact hjx)).toNat = 0 := by
              have := hz.out j (by omega) hjk
              rw [List.getElem?_eq_getElem hjx] at this
              injection this with this
              show (X[j]).toNat = 0
              rw [this]; rfl
            go_wp2_with fail
            go_round
            case rel => exact ⟨j + 1, by omega, by omega, by go_num⟩
            case measure => simp [intOf]; omega
          · go_wp2_with fail
            refine (known11_any _).mono ?_
            rintro e w9 ⟨rfl, hb9⟩
            go_wp2_with fail
            go_ret
            exact ⟨rfl, below_trans (⟨hb2.os, hb2.tape, hb2.output, hb2.size, hb2.block⟩ : Below w.heap.size w (w2.drewN nq)) hb9⟩
end Go.Proofs.Ytppfmgdooflllaa
