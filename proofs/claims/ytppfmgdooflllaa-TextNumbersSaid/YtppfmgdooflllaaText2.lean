/- The walks of the package text, on: Count, SetBit. -/
import Derived.Test.YtppfmgdooflllaaText
import Derived.BigRegion
namespace Go.Proofs.Ytppfmgdooflllaa
open Go.RowKit
set_option linter.unusedVariables false

set_option maxRecDepth 100000 in
set_option maxHeartbeats 1000000 in
theorem ones_any (x : Nat) (w : World) (hx : x < 256) :
    Calls Try.prog 44 #[.int .u8 x] w fun e w' => e = .returned (.int .i64 (Tx.popN 8 x)) ∧ w = w' := by
  go_enter Try.func44, Try.ntmps44
  go_wp2
  go_ret
  refine ⟨ret_int ?_, rfl⟩
  clear w
  revert x
  decide +kernel

set_option maxHeartbeats 1000000 in
theorem count_any (s : ByteArray) (a b : Int) (w : World) (ha : -9223372036854775808 ≤ a ∧ a ≤ 9223372036854775807) (hb : -9223372036854775808 ≤ b ∧ b ≤ 9223372036854775807) (hs : s.size ≤ 1048576) :
    Calls Try.prog 32 #[.string s, .int .i64 a, .int .i64 b] w fun e w' => e = .returned (.int .i64 (Tx.count s.data.toList a b)) ∧ Below w.heap.size w w' := by
  have hrl := Tx.range_length s.data.toList a b
  rw [bs_len] at hrl
  obtain ⟨l, hl⟩ : ∃ l, l = Tx.range s.data.toList a b := ⟨_, rfl⟩
  have hcount : Hid (Tx.count s.data.toList a b = Tx.pops l) := Lib.hid (by rw [hl]; rfl)
  have hm := (range_any s a b w ha hb (by unfold maxLen; omega))
  rw [← hl] at hrl hm
  have Hm := Lib.hid hm
  clear hl hm
  have hcv := run_bytes_of_string (P := Try.prog) w 9 60 5 (bs l) Try.underlying9 Try.underlying60 Try.underlying5
  have hob0 := OB.of_convert (w := w) (bs l) 5 w.heap.size (Nat.le_refl _) (by rw [bs_size]; unfold maxLen; omega)
  rw [bs_data, bs_size] at hob0
  rw [bs_size] at hcv
  have Hob0 := Lib.hid hob0
  have hb0 : Below w.heap.size w (w.drew.alloc (.cells (bytesRow (bs l) (grownCap w l.length 0 5)) 5 ((bytesRow (bs l) (grownCap w l.length 0 5)).size, (bytesRow (bs l) (grownCap w l.length 0 5)).size + 1))) := ((Below.refl _ _).drew).alloc (Nat.le_refl _) _
  have Hb0 := Lib.hid hb0
  clear hob0 hb0
  go_enter Try.func32, Try.ntmps32
  go_wp2_with fail
  refine Hm.out.mono ?_
  rintro e w1 ⟨rfl, rfl⟩
  go_wp2_with fail
  go_loopw [7, 16] (fun x i wr => ∃ k : Nat, k ≤ l.length ∧ i = .int .i64 k ∧ x = .int .i64 (Tx.pops (l.take k) : Nat) ∧ OB wr w.heap.size 5 (.slice (some ⟨w.heap.size, 0, none⟩) l.length (grownCap w l.length 0 5)) l ∧ Below w.heap.size w wr)
    (fun _ i _ => l.length - (intOf i).toNat)
  case atStart => exact ⟨0, Nat.zero_le _, rfl, rfl, Hob0.out, Hb0.out⟩
  case round =>
    clear hcv Hob0 Hb0 Hm
    obtain ⟨k, hk, rfl, rfl, hob, hbel⟩ := hrel
    have hpl := Tx.pops_le (l.take k)
    rw [List.length_take, Nat.min_eq_left hk] at hpl
    by_cases hlt : k < l.length
    · have hcell := hob.cellAt k (by omega)
      rw [bv_get l k hlt] at hcell
      have hp8 := Tx.pop_le l[k]
      have hst := Lib.hid (Tx.pops_take l k hlt)
      have h256 := UInt8.toNat_lt l[k]
      go_wp2_with fail
      refine (ones_any _ _ h256).mono ?_
      rintro e w1 ⟨rfl, rfl⟩
      rw [show Tx.popN 8 l[k].toNat = Tx.pop l[k] from rfl]
      go_wp2_with fail
      go_roundw
      case rel => exact ⟨k + 1, by omega, by go_num, by rw [hst.out]; go_num, hob, hbel⟩
      case measure => simp [intOf]; omega
    · have hk2 : k = l.length := by omega
      have hfin : Hid (Tx.pops (l.take k) = Tx.count s.data.toList a b) := Lib.hid (by rw [hcount.out, hk2, List.take_length])
      clear hcount hk2
      go_wp2_with fail
      go_ret
      exact ⟨ret_int (by rw [← hfin.out]), hbel⟩

theorem put_all : ∀ c : Fin 256, ∀ d : Fin 8, ∀ b : Fin 2, bits .or .u8 (bits .andNot .u8 (c.val : Int) (2 ^ d.val % 256)) ((b.val : Int) * 2 ^ d.val % 256) = ((Tx.put c.val d.val b.val : Nat) : Int) ∧ Tx.put c.val d.val b.val < 256 := by decide +kernel
theorem put_bits (c d b : Nat) (hc : c < 256) (hd : d < 8) (hb : b ≤ 1) : bits .or .u8 (bits .andNot .u8 (c : Int) (2 ^ d % 256)) ((b : Int) * 2 ^ d % 256) = ((Tx.put c d b : Nat) : Int) := (put_all ⟨c, hc⟩ ⟨d, hd⟩ ⟨b, by omega⟩).1
theorem put_lt (c d b : Nat) (hc : c < 256) (hd : d < 8) (hb : b ≤ 1) : Tx.put c d b < 256 := (put_all ⟨c, hc⟩ ⟨d, hd⟩ ⟨b, by omega⟩).2

set_option maxHeartbeats 2000000 in
theorem setBit_any (s : ByteArray) (i b : Int) (w : World) (hs : s.size ≤ 1048576) (hi : -9223372036854775808 ≤ i ∧ i ≤ 9223372036854775807) (hb : -9223372036854775808 ≤ b ∧ b ≤ 9223372036854775807) :
    Calls Try.prog 33 #[.string s, .int .i64 i, .int .i64 b] w fun e w' => e = .returned (.tuple #[sv (Tx.setBit s.data.toList i b).1, .int .i64 (Tx.setBit s.data.toList i b).2.1, .int .i64 (Tx.setBit s.data.toList i b).2.2]) ∧ Below w.heap.size w w' := by
  by_cases hbad : i < 0 ∨ 524288 ≤ i ∨ b < 0 ∨ 1 < b
  · have H : Hid (Tx.setBit s.data.toList i b = ([], 0, 10)) := Lib.hid (by unfold Tx.setBit; rw [if_pos hbad])
    go_enter Try.func33, Try.ntmps33
    go_wp2
    all_goals first
      | (exfalso; omega)
      | (go_ret3; exact ⟨ret_three (by rw [H.out]; rfl) (by rw [H.out]) (by rw [H.out]), Below.refl _ _⟩)
  · obtain ⟨q, hq⟩ : ∃ q : Nat, i / 8 = (q : Int) := ⟨(i / 8).toNat, by omega⟩
    obtain ⟨r, hr⟩ : ∃ r : Nat, i % 8 = (r : Int) := ⟨(i % 8).toNat, by omega⟩
    obtain ⟨bn, rfl⟩ := Int.eq_ofNat_of_zero_le (show 0 ≤ b by omega)
    have hr8 : r < 8 := by omega
    have hq6 : q < 65536 := by omega
    have hbn : bn ≤ 1 := by omega
    have hi0 : 0 ≤ i := by omega
    have hi1 : i < 524288 := by omega
    have hgl := Tx.grown_length s.data.toList (q + 1)
    obtain ⟨L, hL⟩ : ∃ L, L = Tx.grown s.data.toList (q + 1) := ⟨_, rfl⟩
    have hqL : q < L.length := by rw [hL]; omega
    have H : Hid (Tx.setBit s.data.toList i bn = (L.set q (UInt8.ofNat (Tx.put L[q].toNat (7 - r) bn)), ((Tx.bit s.data.toList i : Nat) : Int), 0)) := Lib.hid (by
      unfold Tx.setBit
      rw [if_neg hbad, hq, hr, show ((q : Int) + 1).toNat = q + 1 from by omega, ← hL, Int.toNat_natCast, Int.toNat_natCast, List.getElem?_eq_getElem hqL, show (7 - (r : Int)).toNat = 7 - r from by omega]
      rfl)
    have hm := grown_any s (q + 1) w hs (by omega) (by omega)
    rw [← hL] at hm
    have Hm := Lib.hid hm
    have hbt := bit_any s i w (by unfold maxLen; omega) hi
    have Hbt := Lib.hid hbt
    clear hbad hgl hL hm hbt
    go_enter Try.func33, Try.ntmps33
    go_wp2_with fail
    refine Hbt.out.mono ?_
    rintro e w1 ⟨rfl, rfl⟩
    go_wp2_with fail
    rw [show ((q : Int) + 1) = ((q + 1 : Nat) : Int) from by omega]
    refine Hm.out.mono ?_
    rintro e w1 ⟨g, cap, rfl, hob, hbel⟩
    have hc := hob.cellAt q (by omega)
    rw [bv_get L q hqL] at hc
    have hf := hob.frozenAt q (by omega)
    obtain ⟨c, hcc⟩ : ∃ c : Nat, c = L[q].toNat := ⟨_, rfl⟩
    have hc256 : c < 256 := by rw [hcc]; exact UInt8.toNat_lt _
    rw [← hcc] at hc H
    obtain ⟨d, hd⟩ : ∃ d : Nat, 7 - (r : Int) = (d : Int) := ⟨7 - r, by omega⟩
    have hd8 : d < 8 := by omega
    have hdr : 7 - r = d := by omega
    rw [hdr] at H
    have hq0 : (0 : Int) ≤ (q : Int) := by omega
    have hq1 : (q : Int) < (L.length : Int) := by omega
    have hd0 : (0 : Int) ≤ (d : Int) := by omega
    clear hcc hdr Hm Hbt
    go_wp2_with fail
    go_region
    rw [put_bits c d bn hc256 hd8 hbn]
    have hst := Own.stored hob q (.int .u8 ((Tx.put c d bn : Nat) : Int))
    have hob2 : OB (w1.setCell ⟨g, q, none⟩ (.int .u8 ((Tx.put c d bn : Nat) : Int))).drew w.heap.size 5 (.slice (some ⟨g, 0, none⟩) L.length cap) (L.set q (UInt8.ofNat (Tx.put c d bn))) := OB.mk hst (by
      rw [bv, bv, List.map_set, UInt8.toNat_ofNat', Nat.mod_eq_of_lt (put_lt c d bn hc256 hd8 hbn)])
    have hcv := hob2.string (P := Try.prog) Try.underlying60 Try.underlying5 Try.underlying9
    go_wp2_with fail
    go_ret3
    exact ⟨ret_three (by rw [H.out]) (by rw [H.out]) (by rw [H.out]), (hbel.setCell (hob.lt g rfl).1 _).drew⟩
end Go.Proofs.Ytppfmgdooflllaa
