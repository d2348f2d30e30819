/- The walk of TextBits. -/
import Derived.Test.YtppfmgdooflllaaLaw11a
import Derived.Test.YtppfmgdooflllaaTextQ
namespace Go.Proofs.Ytppfmgdooflllaa
open Go.RowKit
set_option linter.unusedVariables false

set_option maxHeartbeats 4000000 in
theorem textBits_walk (s : ByteArray) (i j b : Int) (w : World) (hs : s.size ≤ maxLen) (hi : -9223372036854775808 ≤ i ∧ i ≤ 9223372036854775807) (hj : -9223372036854775808 ≤ j ∧ j ≤ 9223372036854775807) (hb : -9223372036854775808 ≤ b ∧ b ≤ 9223372036854775807) :
    Calls Try.prog 11 #[.string s, .int .i64 i, .int .i64 j, .int .i64 b] w fun e w' => e = .returned (.bool true) ∧ Below w.heap.size w w' := by
  obtain ⟨S, hS⟩ : ∃ S, S = s.data.toList.take 40 := ⟨_, rfl⟩
  have hSl : S.length ≤ 40 := by rw [hS, List.length_take]; omega
  have hs1 : (bs S).size ≤ 1048576 := by rw [bs_size]; omega
  have hs2 : (bs S).size ≤ maxLen := by unfold maxLen; omega
  have Hc1 := Lib.hid (cut_any s 40 w hs (by omega))
  rw [← hS] at Hc1
  clear hS
  go_enter Try.func11, Try.ntmps11
  go_wp2_with fail
  refine Hc1.out.mono ?_
  rintro e w1 ⟨rfl, rfl⟩
  clear Hc1
  go_wp2_with fail
  refine (within_nat i 400 _ hi (by omega) (by omega)).mono ?_
  rintro e w1 ⟨k, hk, rfl, rfl⟩
  go_wp2_with fail
  refine (within_nat j 400 _ hj (by omega) (by omega)).mono ?_
  rintro e w1 ⟨m, hm, rfl, rfl⟩
  go_wp2_with fail
  refine (within_nat b 1 _ hb (by omega) (by omega)).mono ?_
  rintro e w1 ⟨v, hv, rfl, rfl⟩
  have hv1 : v ≤ 1 := by omega
  obtain ⟨T, hT⟩ : ∃ T, T = Tx.put1 S k v := ⟨_, rfl⟩
  obtain ⟨was, hwas⟩ : ∃ was, was = Tx.bit S (k : Int) := ⟨_, rfl⟩
  have hw1 : was ≤ 1 := by rw [hwas]; exact Tx.bit_le S k
  have H1 : Hid (Tx.setBit (bs S).data.toList (k : Int) (v : Int) = (T, (was : Int), 0)) := Lib.hid (by rw [bs_data, Tx.setBit_nat S k v (by omega) hv1, hT, hwas])
  have hbk : Hid (Tx.bit (bs T).data.toList (k : Int) = v) := Lib.hid (by rw [bs_data, hT, Tx.bit_put1 S k v hv1])
  have hbs : Hid (Tx.bit (bs S).data.toList (k : Int) = was) := Lib.hid (by rw [bs_data, hwas])
  have hbo : Hid (m ≠ k → Tx.bit (bs T).data.toList (m : Int) = Tx.bit (bs S).data.toList (m : Int)) := Lib.hid (fun h => by rw [bs_data, bs_data, hT, Tx.bit_put1_other S k v m hv1 h])
  have hTl : S.length ≤ T.length ∧ T.length ≤ 200 := by
    rw [hT, Tx.put1_length]
    have := (Tx.G_length S k).2
    refine ⟨this, ?_⟩
    unfold Tx.G; rw [Tx.grown_length]; omega
  obtain ⟨U, hU⟩ : ∃ U, U = Tx.G S k := ⟨_, rfl⟩
  have H2 : Hid (Tx.setBit (bs T).data.toList (k : Int) (was : Int) = (U, (v : Int), 0)) := Lib.hid (by
    rw [bs_data, Tx.setBit_nat T k was (by omega) hw1, hT, hwas, Tx.put1_back S k v hv1, Tx.bit_put1 S k v hv1, hU])
  have hUl : U.length = T.length := by rw [hU, hT, Tx.put1_length]
  have hUs : U.take S.length = S := by rw [hU]; exact Tx.take_G S k
  have e1 : (bs U).extract 0 S.length = bs S := by rw [bs_extract, bs_data, List.drop_zero, Nat.sub_zero, hUs]
  have hpp := Tx.pops_put1 S k v hv1
  rw [← hT, ← hwas] at hpp
  have c1 : Hid (Tx.count (bs T).data.toList 0 (-1) = Tx.pops T) := Lib.hid (by rw [bs_data, Tx.count_all])
  have c2 : Hid (Tx.count (bs S).data.toList 0 (-1) = Tx.pops S) := Lib.hid (by rw [bs_data, Tx.count_all])
  have hpT := Tx.pops_le T
  have hpS := Tx.pops_le S
  obtain ⟨x, hx⟩ : ∃ x, Tx.pops T = x := ⟨_, rfl⟩
  obtain ⟨y, hy⟩ : ∃ y, Tx.pops S = y := ⟨_, rfl⟩
  rw [hx] at c1 hpT hpp
  rw [hy] at c2 hpS hpp
  have hxy : ((x : Int) - y == (v : Int) - was) = true := by rw [beq_iff_eq]; omega
  have hUT : ((U.length : Int) == T.length) = true := by rw [beq_iff_eq, hUl]
  have ht1 : (bs T).size ≤ 1048576 := by rw [bs_size]; omega
  have ht2 : (bs T).size ≤ maxLen := by unfold maxLen; omega
  have hSU : S.length ≤ U.length := by omega
  have hS9 := hTl.1
  have hT9 := hTl.2
  have hk9 : -9223372036854775808 ≤ (k : Int) ∧ (k : Int) ≤ 9223372036854775807 := by omega
  have hm9 : -9223372036854775808 ≤ (m : Int) ∧ (m : Int) ≤ 9223372036854775807 := by omega
  have hv9 : -9223372036854775808 ≤ (v : Int) ∧ (v : Int) ≤ 9223372036854775807 := by omega
  have hw9 : -9223372036854775808 ≤ (was : Int) ∧ (was : Int) ≤ 9223372036854775807 := by omega
  clear hT hwas hU hUl hUs hpp hx hy hTl
  go_wp2_with fail
  refine (setBit_is (bs S) k v _ T was 0 hs1 hk9 hv9 H1.out).mono ?_
  rintro e w2 ⟨rfl, hb2⟩
  go_wp2_with fail
  refine (bit_is (bs S) k _ was hs2 hk9 hbs.out).mono ?_
  rintro e w3 ⟨rfl, rfl⟩
  go_wp2_with fail
  refine (bit_is (bs T) k _ v ht2 hk9 hbk.out).mono ?_
  rintro e w3 ⟨rfl, rfl⟩
  by_cases hmk : m = k
  · subst hmk
    go_wp2_with fail
    refine (setBit_is (bs T) m was _ U v 0 ht1 hk9 hw9 H2.out).mono ?_
    rintro e w4 ⟨rfl, hb4⟩
    go_wp2_with fail
    refine (count_is (bs T) 0 (-1) _ x (by omega) (by omega) ht1 c1.out).mono ?_
    rintro e w5 ⟨rfl, hb5⟩
    go_wp2_with fail
    refine (count_is (bs S) 0 (-1) _ y (by omega) (by omega) hs1 c2.out).mono ?_
    rintro e w6 ⟨rfl, hb6⟩
    go_wp2_with fail
    refine (known11_any _).mono ?_
    rintro e w9 ⟨rfl, hb9⟩
    go_wp2_with fail
    go_ret
    exact ⟨rfl, below_trans (below_trans (below_trans (below_trans hb2 hb4) hb5) hb6) hb9⟩
  · have hne1 : ((m : Int) == k) = false := by rw [beq_eq_false_iff_ne]; omega
    have hne2 : ((m : Int) != k) = true := by rw [bne_iff_ne]; omega
    have Hbo := Lib.hid (hbo.out hmk)
    clear hmk hbo
    go_wp2_with fail
    refine (bit_is (bs T) m _ _ ht2 hm9 Hbo.out).mono ?_
    rintro e w3 ⟨rfl, rfl⟩
    go_wp2_with fail
    refine (bit_any (bs S) m _ hs2 hm9).mono ?_
    rintro e w3 ⟨rfl, rfl⟩
    go_wp2_with fail
    refine (setBit_is (bs T) k was _ U v 0 ht1 hk9 hw9 H2.out).mono ?_
    rintro e w4 ⟨rfl, hb4⟩
    go_wp2_with fail
    refine (count_is (bs T) 0 (-1) _ x (by omega) (by omega) ht1 c1.out).mono ?_
    rintro e w5 ⟨rfl, hb5⟩
    go_wp2_with fail
    refine (count_is (bs S) 0 (-1) _ y (by omega) (by omega) hs1 c2.out).mono ?_
    rintro e w6 ⟨rfl, hb6⟩
    go_wp2_with fail
    refine (known11_any _).mono ?_
    rintro e w9 ⟨rfl, hb9⟩
    go_wp2_with fail
    go_ret
    exact ⟨rfl, below_trans (below_trans (below_trans (below_trans hb2 hb4) hb5) hb6) hb9⟩
end Go.Proofs.Ytppfmgdooflllaa
