/- The walk of the reference's counted (tallboyref18), where there are no parts. -/
import Derived.Test.YtjdnpgdedbegfaaDoorRtpQ
namespace Go.Proofs.YtjdnpgdedbegfaaDoor
open Go.RowKit Go.Shelf
set_option linter.unusedVariables false

set_option maxRecDepth 100000 in
set_option maxHeartbeats 8000000 in
theorem rcnt_int (d : Nat) (l b : List UInt8) (p : Nat) (nn : Int) (w : World) (hc : l = 58 :: b) (hl : l.length ≤ 1048576) (hp : p ≤ l.length) (hf : fits nn) :
    Calls Tryd.prog 42 #[.string (bs l), .int .i64 nn, .int .i64 (p : Nat), .int .i64 ((d + 1 : Nat) : Int)] w fun e w' => RD3 w w' e l.length (Rsp.cnt (Rsp.rd d l.length) l.length 58 nn (l.drop p)) ∧ Below w.heap.size w w' := by
  obtain ⟨n, hn⟩ : ∃ n, l.length = n := ⟨_, rfl⟩
  have HN := Lib.hid hn
  have hsz : (bs l).size = n := by rw [bs_size]; exact hn
  have h0 : 0 < n := by rw [← hn, hc]; simp
  have hz : 0 < (bs l).size := by rw [hsz]; exact h0
  have hg0 : (bs l)[0]'hz = 58 := by rw [bs_get18 l 0 hz (by rw [hn]; exact h0)]; simp [hc]
  rw [hn] at hl hp ⊢
  have HZ := Lib.hid (zz_blk w #[.int .i64 0, .string ⟨#[]⟩, .int .i64 0, .slice none 0 0])
  have HB := Lib.hid (zz_below w #[.int .i64 0, .string ⟨#[]⟩, .int .i64 0, .slice none 0 0])
  obtain ⟨X, hX⟩ : ∃ X, Rsp.cnt (Rsp.rd d n) n 58 nn (l.drop p) = X := ⟨_, rfl⟩
  rw [hX]
  obtain ⟨D, hD⟩ : ∃ D, d + 1 = D := ⟨_, rfl⟩
  rw [hD]
  have HXX := Lib.hid hX
  have HTL := Lib.hid (show (l.drop p).length = n - p by rw [List.length_drop, hn])
  have i1 : (0 : Int) < (n : Int) := by omega
  have HF := Lib.hid hf
  have hf1 : -9223372036854775808 ≤ nn := hf.1
  have hf2 : nn ≤ 9223372036854775807 := hf.2
  have hpI : (p : Int) ≤ (n : Int) := by omega
  have hnI : (n : Int) ≤ 1048576 := by omega
  clear hc hX hn hf hD
  have HR := Lib.hid (show X = some (.mk 3 [] nn [], l.drop p) by rw [← HXX.out]; rfl)
  have HT := Lib.hid (show n - (l.drop p).length = p by rw [HTL.out]; omega)
  have HZ2 := Lib.hid (zz_blk w #[.int .i64 3, .string ⟨#[]⟩, .int .i64 nn, .slice none 0 0])
  have HB2 := Lib.hid (zz_below w #[.int .i64 3, .string ⟨#[]⟩, .int .i64 nn, .slice none 0 0])
  go_enter Tryd.func42, Tryd.ntmps42
  go_wp2_with fail
  refine bodyPost_ret (ret_cell3 rfl _ _ w.heap.size _ _ _ _ _ rfl HZ2.out) rfl ?_
  rw [HR.out]
  refine ⟨⟨none, 0, ?_, RV.flat_ (s := []) (by unfold fits; omega) HF.out (Nat.zero_le _)⟩, HB2.out⟩
  rw [HT.out]; rfl

set_option maxRecDepth 100000 in
set_option maxHeartbeats 8000000 in
theorem rcnt_bulk (d : Nat) (l b : List UInt8) (p : Nat) (nn : Int) (w : World) (hc : l = 36 :: b) (hl : l.length ≤ 1048576) (hp : p ≤ l.length) (hf : fits nn) :
    Calls Tryd.prog 42 #[.string (bs l), .int .i64 nn, .int .i64 (p : Nat), .int .i64 ((d + 1 : Nat) : Int)] w fun e w' => RD3 w w' e l.length (Rsp.cnt (Rsp.rd d l.length) l.length 36 nn (l.drop p)) ∧ Below w.heap.size w w' := by
  obtain ⟨n, hn⟩ : ∃ n, l.length = n := ⟨_, rfl⟩
  have HN := Lib.hid hn
  have hsz : (bs l).size = n := by rw [bs_size]; exact hn
  have h0 : 0 < n := by rw [← hn, hc]; simp
  have hz : 0 < (bs l).size := by rw [hsz]; exact h0
  have hg0 : (bs l)[0]'hz = 36 := by rw [bs_get18 l 0 hz (by rw [hn]; exact h0)]; simp [hc]
  rw [hn] at hl hp ⊢
  have HZ := Lib.hid (zz_blk w #[.int .i64 0, .string ⟨#[]⟩, .int .i64 0, .slice none 0 0])
  have HB := Lib.hid (zz_below w #[.int .i64 0, .string ⟨#[]⟩, .int .i64 0, .slice none 0 0])
  obtain ⟨X, hX⟩ : ∃ X, Rsp.cnt (Rsp.rd d n) n 36 nn (l.drop p) = X := ⟨_, rfl⟩
  rw [hX]
  obtain ⟨D, hD⟩ : ∃ D, d + 1 = D := ⟨_, rfl⟩
  rw [hD]
  have HXX := Lib.hid hX
  have HTL := Lib.hid (show (l.drop p).length = n - p by rw [List.length_drop, hn])
  have i1 : (0 : Int) < (n : Int) := by omega
  have HF := Lib.hid hf
  have hf1 : -9223372036854775808 ≤ nn := hf.1
  have hf2 : nn ≤ 9223372036854775807 := hf.2
  have hpI : (p : Int) ≤ (n : Int) := by omega
  have hnI : (n : Int) ≤ 1048576 := by omega
  clear hc hX hn hf hD
  by_cases h1 : nn = -1
  · subst h1
    have HR := Lib.hid (show X = some (.mk 5 [] 0 [], l.drop p) by rw [← HXX.out]; rfl)
    have HT := Lib.hid (show n - (l.drop p).length = p by rw [HTL.out]; omega)
    have HZ2 := Lib.hid (zz_blk w #[.int .i64 5, .string ⟨#[]⟩, .int .i64 0, .slice none 0 0])
    have HB2 := Lib.hid (zz_below w #[.int .i64 5, .string ⟨#[]⟩, .int .i64 0, .slice none 0 0])
    go_enter Tryd.func42, Tryd.ntmps42
    go_wp2_with fail
    refine bodyPost_ret (ret_cell3 rfl _ _ w.heap.size _ _ _ _ _ rfl HZ2.out) rfl ?_
    rw [HR.out]
    refine ⟨⟨none, 0, ?_, RV.flat_ (s := []) (by unfold fits; omega) (by unfold fits; omega) (Nat.zero_le _)⟩, HB2.out⟩
    rw [HT.out]; rfl
  · have HC := Lib.hid (show X = Rsp.bulk nn (l.drop p) by rw [← HXX.out]; unfold Rsp.cnt; rw [if_neg (by decide), if_pos rfl, if_neg h1])
    have q1 : (nn == -1) = false := by simpa using h1
    by_cases h2 : nn < 0
    · have HR := Lib.hid (show X = none by rw [HC.out]; unfold Rsp.bulk; rw [if_pos (.inl h2)])
      clear h1
      go_enter Tryd.func42, Tryd.ntmps42
      go_wp2_with fail
      refine bodyPost_ret (ret_cell3 rfl _ _ w.heap.size _ _ _ _ _ rfl HZ.out) rfl ?_
      rw [HR.out]
      exact ⟨rfl, HB.out⟩
    · by_cases h3 : (n : Int) - (p : Int) - 2 < nn
      · have HR := Lib.hid (show X = none by rw [HC.out]; unfold Rsp.bulk; rw [if_pos (.inr (by rw [HTL.out]; omega))])
        clear h1
        go_enter Tryd.func42, Tryd.ntmps42
        go_wp2_with fail
        refine bodyPost_ret (ret_cell3 rfl _ _ w.heap.size _ _ _ _ _ rfl HZ.out) rfl ?_
        rw [HR.out]
        exact ⟨rfl, HB.out⟩
      · obtain ⟨k, rfl⟩ : ∃ k : Nat, nn = (k : Int) := ⟨nn.toNat, by omega⟩
        obtain ⟨q, hq⟩ : ∃ q, p + k = q := ⟨_, rfl⟩
        have hq2 : q + 2 ≤ n := by omega
        have e1 : (p : Int) + (k : Int) = (q : Int) := by omega
        have j1 : (q : Int) + 2 ≤ (n : Int) := by omega
        have j2 : (0 : Int) ≤ (q : Int) := by omega
        have j3 : (p : Int) ≤ (q : Int) := by omega
        have j4 : ¬ (n : Int) - (p : Int) - 2 < (k : Int) := by omega
        have j5 : (k : Int) ≤ (n : Int) - (p : Int) - 2 := by omega
        have hex1 : (bs l).extract q (q + 2) = bs ((l.drop q).take 2) := by rw [bs_extract, bs_data]; congr 1; rw [show q + 2 - q = 2 by omega]
        have hex2 : (bs l).extract p q = bs ((l.drop p).take k) := by rw [bs_extract, bs_data, show q - p = k by omega]
        have HBK := Lib.hid (show X = if (l.drop q).take 2 = [13, 10] then some (.mk 4 ((l.drop p).take k) 0 [], l.drop (q + 2)) else none by
          rw [HC.out]; unfold Rsp.bulk; rw [if_neg (by rw [HTL.out]; omega)]; simp only [Int.toNat_natCast, List.drop_drop, hq, show p + (k + 2) = q + 2 by omega])
        have HT := Lib.hid (show n - (l.drop (q + 2)).length = q + 2 by rw [List.length_drop, HN.out]; omega)
        have hsl : ((l.drop p).take k).length ≤ maxLen := by rw [List.length_take, HTL.out]; unfold maxLen; omega
        obtain ⟨S1, hS1⟩ : ∃ S, (l.drop p).take k = S := ⟨_, rfl⟩
        obtain ⟨T, hT⟩ : ∃ S, (l.drop q).take 2 = S := ⟨_, rfl⟩
        rw [hS1] at hex2 HBK hsl
        rw [hT] at hex1 HBK
        have HSL := Lib.hid hsl
        clear hS1 hT hsl hq h1 h2 h3 h0 hp
        by_cases ht : T = [13, 10]
        · subst ht
          have HR := Lib.hid (show X = some (.mk 4 S1 0 [], l.drop (q + 2)) by rw [HBK.out, if_pos rfl])
          rw [show bs [13, 10] = ⟨#[13, 10]⟩ from rfl] at hex1
          have HZ2 := Lib.hid (zz_blk w #[.int .i64 4, .string (bs S1), .int .i64 0, .slice none 0 0])
          have HB2 := Lib.hid (zz_below w #[.int .i64 4, .string (bs S1), .int .i64 0, .slice none 0 0])
          go_enter Tryd.func42, Tryd.ntmps42
          go_wp2_with fail
          refine bodyPost_ret (ret_cell3 rfl _ _ w.heap.size _ _ _ _ _ rfl HZ2.out) rfl ?_
          rw [HR.out]
          refine ⟨⟨none, 0, ?_, RV.flat_ (by unfold fits; omega) (by unfold fits; omega) HSL.out⟩, HB2.out⟩
          rw [HT.out]; rfl
        · have HR := Lib.hid (show X = none by rw [HBK.out, if_neg ht])
          have q3 : (T == [13, 10]) = false := by simp; exact ht
          have q4 : (T != [13, 10]) = true := by simp; exact ht
          go_enter Tryd.func42, Tryd.ntmps42
          go_wp2_with fail
          refine bodyPost_ret (ret_cell3 rfl _ _ w.heap.size _ _ _ _ _ rfl HZ.out) rfl ?_
          rw [HR.out]
          exact ⟨rfl, HB.out⟩
end Go.Proofs.YtjdnpgdedbegfaaDoor
