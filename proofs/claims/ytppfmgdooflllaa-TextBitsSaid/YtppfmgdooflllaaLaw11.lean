/- The walks of the statements of layer 11. -/
import Derived.Test.YtppfmgdooflllaaRef11
import Derived.Test.YtppfmgdooflllaaKeep
namespace Go.Proofs.Ytppfmgdooflllaa
open Go.RowKit
set_option linter.unusedVariables false

theorem setRange_is (s : ByteArray) (i : Int) (t : ByteArray) (w : World) (l : List UInt8) (c : Int) (hs : s.size ≤ 1048576) (hi : -9223372036854775808 ≤ i ∧ i ≤ 9223372036854775807) (ht : t.size ≤ 1048576) (h : Tx.setRange s.data.toList i t.data.toList = (l, c)) :
    Calls Try.prog 28 #[.string s, .int .i64 i, .string t] w fun e w' => e = .returned (.tuple #[sv l, .int .i64 c]) ∧ Below w.heap.size w w' :=
  (setRange_any s i t w hs hi ht).mono fun e w' ⟨he, hw⟩ => ⟨by rw [he, h], hw⟩
theorem setBit_is (s : ByteArray) (i b : Int) (w : World) (l : List UInt8) (x c : Int) (hs : s.size ≤ 1048576) (hi : -9223372036854775808 ≤ i ∧ i ≤ 9223372036854775807) (hb : -9223372036854775808 ≤ b ∧ b ≤ 9223372036854775807) (h : Tx.setBit s.data.toList i b = (l, x, c)) :
    Calls Try.prog 33 #[.string s, .int .i64 i, .int .i64 b] w fun e w' => e = .returned (.tuple #[sv l, .int .i64 x, .int .i64 c]) ∧ Below w.heap.size w w' :=
  (setBit_any s i b w hs hi hb).mono fun e w' ⟨he, hw⟩ => ⟨by rw [he, h], hw⟩
theorem incr_is (s : ByteArray) (d : Int) (w : World) (l : List UInt8) (x c : Int) (hs : s.size ≤ maxLen) (hd : -9223372036854775808 ≤ d ∧ d ≤ 9223372036854775807) (h : Tx.incr s.data.toList d = (l, x, c)) :
    Calls Try.prog 31 #[.string s, .int .i64 d] w fun e w' => e = .returned (.tuple #[sv l, .int .i64 x, .int .i64 c]) ∧ Below w.heap.size w w' :=
  (incr_any s d w hs hd).mono fun e w' ⟨he, hw⟩ => ⟨by rw [he, h], hw⟩
theorem range_is (s : ByteArray) (a b : Int) (w : World) (l : List UInt8) (ha : -9223372036854775808 ≤ a ∧ a ≤ 9223372036854775807) (hb : -9223372036854775808 ≤ b ∧ b ≤ 9223372036854775807) (hs : s.size ≤ maxLen) (h : Tx.range s.data.toList a b = l) :
    Calls Try.prog 30 #[.string s, .int .i64 a, .int .i64 b] w fun e w' => e = .returned (sv l) ∧ w = w' :=
  (range_any s a b w ha hb hs).mono fun e w' ⟨he, hw⟩ => ⟨by rw [he, h], hw⟩
theorem bit_is (s : ByteArray) (i : Int) (w : World) (x : Nat) (hs : s.size ≤ maxLen) (hi : -9223372036854775808 ≤ i ∧ i ≤ 9223372036854775807) (h : Tx.bit s.data.toList i = x) :
    Calls Try.prog 34 #[.string s, .int .i64 i] w fun e w' => e = .returned (.int .i64 x) ∧ w = w' :=
  (bit_any s i w hs hi).mono fun e w' ⟨he, hw⟩ => ⟨by rw [he, h], hw⟩
theorem count_is (s : ByteArray) (a b : Int) (w : World) (x : Nat) (ha : -9223372036854775808 ≤ a ∧ a ≤ 9223372036854775807) (hb : -9223372036854775808 ≤ b ∧ b ≤ 9223372036854775807) (hs : s.size ≤ 1048576) (h : Tx.count s.data.toList a b = x) :
    Calls Try.prog 32 #[.string s, .int .i64 a, .int .i64 b] w fun e w' => e = .returned (.int .i64 x) ∧ Below w.heap.size w w' :=
  (count_any s a b w ha hb hs).mono fun e w' ⟨he, hw⟩ => ⟨by rw [he, h], hw⟩

set_option maxHeartbeats 1000000 in
theorem known11_any (w : World) :
    Calls Try.prog 29 #[] w fun e w' => e = .returned (.bool true) ∧ Below w.heap.size w w' := by
  go_enter Try.func29, Try.ntmps29
  go_wp2_with fail
  refine (setRange_is ⟨#[97]⟩ 3 ⟨#[98]⟩ _ [97, 0, 0, 98] 0 (by decide) (by decide) (by decide) (by decide +kernel)).mono ?_
  rintro e w1 ⟨rfl, hb1⟩
  go_wp2_with fail
  refine (incr_is ⟨#[57, 50, 50, 51, 51, 55, 50, 48, 51, 54, 56, 53, 52, 55, 55, 53, 56, 48, 55]⟩ 1 _ [] 0 6 (by decide) (by decide) (by decide +kernel)).mono ?_
  rintro e w2 ⟨rfl, hb2⟩
  go_wp2_with fail
  refine (range_is ⟨#[104, 101, 108, 108, 111]⟩ (-3) (-1) _ [108, 108, 111] (by decide) (by decide) (by decide) (by decide +kernel)).mono ?_
  rintro e w3 ⟨rfl, rfl⟩
  go_wp2_with fail
  refine (bit_is ⟨#[97]⟩ 1 _ 1 (by decide) (by decide) (by decide +kernel)).mono ?_
  rintro e w4 ⟨rfl, rfl⟩
  go_wp2_with fail
  go_ret
  exact ⟨rfl, below_trans hb1 hb2⟩

set_option maxHeartbeats 1000000 in
theorem ranges_any (s : ByteArray) (a b : Int) (w : World) (ha : -9223372036854775808 ≤ a ∧ a ≤ 9223372036854775807) (hb : -9223372036854775808 ≤ b ∧ b ≤ 9223372036854775807) (hs : s.size ≤ 1048576) :
    Calls Try.prog 35 #[.string s, .int .i64 a, .int .i64 b] w fun e w' => e = .returned (.bool true) ∧ Below w.heap.size w w' := by
  have hs' : s.size ≤ maxLen := by unfold maxLen; omega
  go_enter Try.func35, Try.ntmps35
  go_wp2_with fail
  refine (range_any s a b _ ha hb hs').mono ?_
  rintro e w1 ⟨rfl, rfl⟩
  go_wp2_with fail
  refine (ref_range s a b _ ha hb hs').mono ?_
  rintro e w2 ⟨rfl, rfl⟩
  go_wp2_with fail
  refine (count_any s a b _ ha hb hs).mono ?_
  rintro e w3 ⟨rfl, hb3⟩
  go_wp2_with fail
  refine (ref_count s a b _ ha hb hs).mono ?_
  rintro e w4 ⟨rfl, rfl⟩
  go_wp2_with fail
  go_ret
  exact ⟨rfl, hb3⟩

set_option maxHeartbeats 1000000 in
theorem sets_any (s : ByteArray) (i : Int) (t : ByteArray) (b : Int) (w : World) (hs : s.size ≤ 1048576) (hi : -9223372036854775808 ≤ i ∧ i ≤ 9223372036854775807) (ht : t.size ≤ 1048576) (hb : -9223372036854775808 ≤ b ∧ b ≤ 9223372036854775807) :
    Calls Try.prog 36 #[.string s, .int .i64 i, .string t, .int .i64 b] w fun e w' => e = .returned (.bool true) ∧ Below w.heap.size w w' := by
  have hs' : s.size ≤ maxLen := by unfold maxLen; omega
  rcases hx : Tx.setRange s.data.toList i t.data.toList with ⟨l, c⟩
  rcases hy : Tx.setBit s.data.toList i b with ⟨l2, x, c2⟩
  have Hx := Lib.hid hx
  have Hy := Lib.hid hy
  clear hx hy
  go_enter Try.func36, Try.ntmps36
  go_wp2_with fail
  refine (setRange_is s i t _ l c hs hi ht Hx.out).mono ?_
  rintro e w1 ⟨rfl, hb1⟩
  go_wp2_with fail
  refine (ref_setRange s i t _ hs hi ht).mono ?_
  rintro e w2 ⟨rfl, hb2⟩
  rw [Hx.out]
  go_wp2_with fail
  refine (setBit_is s i b _ l2 x c2 hs hi hb Hy.out).mono ?_
  rintro e w3 ⟨rfl, hb3⟩
  go_wp2_with fail
  refine (ref_setBit s i b _ hs hi hb).mono ?_
  rintro e w4 ⟨rfl, hb4⟩
  rw [Hy.out]
  go_wp2_with fail
  refine (bit_any s i _ hs' hi).mono ?_
  rintro e w5 ⟨rfl, rfl⟩
  go_wp2_with fail
  refine (ref_bit s i _ hs' hi).mono ?_
  rintro e w6 ⟨rfl, rfl⟩
  go_wp2_with fail
  go_ret
  exact ⟨rfl, below_trans (below_trans (below_trans hb1 hb2) hb3) hb4⟩

set_option maxHeartbeats 1000000 in
theorem adds11_any (s : ByteArray) (d : Int) (w : World) (hs : s.size ≤ maxLen) (hd : -9223372036854775808 ≤ d ∧ d ≤ 9223372036854775807) :
    Calls Try.prog 37 #[.string s, .int .i64 d] w fun e w' => e = .returned (.bool true) ∧ Below w.heap.size w w' := by
  rcases hx : Tx.incr s.data.toList d with ⟨l, x, c⟩
  have Hx := Lib.hid hx
  clear hx
  go_enter Try.func37, Try.ntmps37
  go_wp2_with fail
  refine (incr_is s d _ l x c hs hd Hx.out).mono ?_
  rintro e w1 ⟨rfl, hb1⟩
  go_wp2_with fail
  refine (ref_incr s d _ hs hd).mono ?_
  rintro e w2 ⟨rfl, rfl⟩
  rw [Hx.out]
  go_wp2_with fail
  go_ret
  exact ⟨rfl, hb1⟩
end Go.Proofs.Ytppfmgdooflllaa
