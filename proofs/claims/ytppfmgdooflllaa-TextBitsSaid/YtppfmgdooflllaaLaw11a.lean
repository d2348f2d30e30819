/- The walks of TextTells, TextIncrs, TextCounts. -/
import Derived.Test.YtppfmgdooflllaaLaw11
namespace Go.Proofs.Ytppfmgdooflllaa
open Go.RowKit
set_option linter.unusedVariables false

namespace Tx
theorem range_all (l : List UInt8) : range l 0 (-1) = l := by
  unfold range lo hi s1 s2
  cases l with
  | nil => rfl
  | cons c t =>
    have h : ¬ ((if (0 : Int) < 0 then max (0 + ((c :: t).length : Int)) 0 else 0) > min (if (-1 : Int) < 0 then -1 + ((c :: t).length : Int) else -1) (((c :: t).length : Int) - 1)) := by
      simp; omega
    rw [if_neg h, if_neg h]
    have h2 : (min (if (-1 : Int) < 0 then -1 + ((c :: t).length : Int) else -1) (((c :: t).length : Int) - 1) + 1).toNat = (c :: t).length := by simp; omega
    rw [h2]
    simp
theorem range_mid (l : List UInt8) (a b : Nat) (h : a ≤ b) (hb : b < l.length) : range l a b = (l.drop a).take (b + 1 - a) := by
  unfold range lo hi s1 s2
  have h1 : ¬ ((if (a : Int) < 0 then max ((a : Int) + (l.length : Int)) 0 else (a : Int)) > min (if (b : Int) < 0 then (b : Int) + (l.length : Int) else (b : Int)) ((l.length : Int) - 1)) := by
    rw [if_neg (by omega), if_neg (by omega)]; omega
  rw [if_neg h1, if_neg h1, if_neg (by omega), if_neg (by omega)]
  have h2 : (min (b : Int) ((l.length : Int) - 1) + 1).toNat = b + 1 := by omega
  rw [h2, Int.toNat_natCast]
theorem range_from (l : List UInt8) (a : Nat) : range l a (-1) = l.drop a := by
  have hlo : lo (a : Int) (-1) l.length = if a < l.length then (a : Int) else 0 := by unfold lo s1 s2; (repeat' split) <;> omega
  have hhi : hi (a : Int) (-1) l.length = if a < l.length then (l.length : Int) else 0 := by unfold hi s1 s2; (repeat' split) <;> omega
  unfold range
  rw [hlo, hhi]
  by_cases h : a < l.length
  · rw [if_pos h, if_pos h, Int.toNat_natCast, Int.toNat_natCast, List.take_of_length_le (by simp)]
  · rw [if_neg h, if_neg h, List.drop_eq_nil_of_le (show l.length ≤ a by omega)]
    simp
theorem count_all (l : List UInt8) : count l 0 (-1) = pops l := by unfold count; rw [range_all]
theorem count_one (l : List UInt8) (k : Nat) (h : k < l.length) : count l k k = pop l[k] := by
  unfold count
  rw [range_mid l k k (Nat.le_refl _) h, show k + 1 - k = 1 from by omega, List.drop_eq_getElem_cons h]
  rw [List.take_succ_cons, List.take_zero, pops_cons, pops_nil]; rfl
theorem count_from (l : List UInt8) (k : Nat) : count l k (-1) = pops (l.drop k) := by unfold count; rw [range_from]
theorem count_to (l : List UInt8) (k : Nat) (h : k < l.length) : count l 0 k = pops (l.take (k + 1)) := by
  unfold count
  have := range_mid l 0 k (Nat.zero_le _) h
  rw [show ((0 : Nat) : Int) = 0 from rfl] at this
  rw [this]; simp
theorem pops_split (l : List UInt8) (k : Nat) (h : k < l.length) : pops l = pops (l.take k) + pop l[k] + pops (l.drop (k + 1)) := by
  conv => lhs; rw [← List.take_append_drop k l, List.drop_eq_getElem_cons h]
  rw [pops_append, pops_cons]
  omega
end Tx

set_option maxHeartbeats 2000000 in
theorem textTells_walk (s t : ByteArray) (a b by_ bit : Int) (w : World) (hs : s.size ≤ maxLen) (ht : t.size ≤ maxLen) (ha : -9223372036854775808 ≤ a ∧ a ≤ 9223372036854775807) (hb : -9223372036854775808 ≤ b ∧ b ≤ 9223372036854775807) (hy : -9223372036854775808 ≤ by_ ∧ by_ ≤ 9223372036854775807) (hbit : -9223372036854775808 ≤ bit ∧ bit ≤ 9223372036854775807) :
    Calls Try.prog 13 #[.string s, .string t, .int .i64 a, .int .i64 b, .int .i64 by_, .int .i64 bit] w fun e w' => e = .returned (.bool true) ∧ Below w.heap.size w w' := by
  obtain ⟨S, hS⟩ : ∃ S, S = s.data.toList.take 100 := ⟨_, rfl⟩
  obtain ⟨T, hT⟩ : ∃ T, T = t.data.toList.take 30 := ⟨_, rfl⟩
  have hSl : S.length ≤ 100 := by rw [hS, List.length_take]; omega
  have hTl : T.length ≤ 30 := by rw [hT, List.length_take]; omega
  have hs1 : (bs S).size ≤ 1048576 := by rw [bs_size]; omega
  have ht1 : (bs T).size ≤ 1048576 := by rw [bs_size]; omega
  have hs2 : (bs S).size ≤ maxLen := by unfold maxLen; omega
  have ht2 : (bs T).size ≤ maxLen := by unfold maxLen; omega
  have Hc1 := Lib.hid (cut_any s 100 w hs (by omega))
  have Hc2 := Lib.hid (cut_any t 30 w ht (by omega))
  have happ : Hid (Tx.append (bs S).data.toList (bs T).data.toList = (S ++ T, 0)) := Lib.hid (by rw [bs_data, bs_data]; unfold Tx.append; rw [if_neg (by omega)])
  rw [← hS] at Hc1
  rw [← hT] at Hc2
  clear hS hT
  have hadd : ∀ w, (Op.stringOp .add (bs S) (bs T)).run Try.prog w = .ok (sv (S ++ T)) w := fun w => (run_string_add_sum w _ _ (by omega)).trans (by rw [bs_append])
  go_enter Try.func13, Try.ntmps13
  go_wp2_with fail
  refine Hc1.out.mono ?_
  rintro e w1 ⟨rfl, rfl⟩
  go_wp2_with fail
  refine Hc2.out.mono ?_
  rintro e w1 ⟨rfl, rfl⟩
  clear Hc1 Hc2
  go_wp2_with fail
  refine (within_ex a (-120) 120 _ ha (by omega) (by omega) (by omega)).mono ?_
  rintro e w1 ⟨m, hm1, hm2, rfl, rfl⟩
  go_wp2_with fail
  refine (within_ex b (-120) 120 _ hb (by omega) (by omega) (by omega)).mono ?_
  rintro e w1 ⟨n, hn1, hn2, rfl, rfl⟩
  go_wp2_with fail
  refine (append_any (bs S) (bs T) _ hs1 ht1).mono ?_
  rintro e w1 ⟨rfl, rfl⟩
  rw [happ.out]
  go_wp2_with fail
  refine (ranges_any (bs S) a b _ ha hb hs1).mono ?_
  rintro e w2 ⟨rfl, hb2⟩
  go_wp2_with fail
  refine (ranges_any (bs S) m n _ (by omega) (by omega) hs1).mono ?_
  rintro e w3 ⟨rfl, hb3⟩
  go_wp2_with fail
  refine (sets_any (bs S) a (bs T) bit _ hs1 ha ht1 hbit).mono ?_
  rintro e w4 ⟨rfl, hb4⟩
  go_wp2_with fail
  refine (sets_any (bs S) (m * 8) (bs T) bit _ hs1 (by omega) ht1 hbit).mono ?_
  rintro e w5 ⟨rfl, hb5⟩
  go_wp2_with fail
  refine (sets_any (bs S) m (bs T) 1 _ hs1 (by omega) ht1 (by omega)).mono ?_
  rintro e w6 ⟨rfl, hb6⟩
  go_wp2_with fail
  refine (adds11_any (bs S) by_ _ hs2 hy).mono ?_
  rintro e w7 ⟨rfl, hb7⟩
  go_wp2_with fail
  refine (adds11_any (bs T) a _ ht2 ha).mono ?_
  rintro e w8 ⟨rfl, hb8⟩
  go_wp2_with fail
  refine (known11_any _).mono ?_
  rintro e w9 ⟨rfl, hb9⟩
  go_wp2_with fail
  go_ret
  exact ⟨rfl, below_trans (below_trans (below_trans (below_trans (below_trans (below_trans (below_trans hb2 hb3) hb4) hb5) hb6) hb7) hb8) hb9⟩

theorem incr_fmt (n d : Int) (hn : -9223372036854775808 ≤ n ∧ n ≤ 9223372036854775807) : Tx.incr (Num.fmt n) d = match Num.add n d with | none => ([], 0, 6) | some m => (Num.fmt m, m, 0) := by
  unfold Tx.incr
  rw [Num.prs_fmt n hn.1 hn.2, if_neg (by simp)]
  simp only [Option.getD_some]
  cases Num.add n d <;> rfl

set_option maxHeartbeats 4000000 in
theorem textIncrs_walk (n d : Int) (w : World) (hn : -9223372036854775808 ≤ n ∧ n ≤ 9223372036854775807) (hd : -9223372036854775808 ≤ d ∧ d ≤ 9223372036854775807) :
    Calls Try.prog 9 #[.int .i64 n, .int .i64 d] w fun e w' => e = .returned (.bool true) ∧ Below w.heap.size w w' := by
  have hfl := Num.fmt_length n
  have hsz : (bs (Num.fmt n)).size ≤ maxLen := by rw [bs_size]; unfold maxLen; omega
  by_cases h : -9223372036854775808 ≤ n + d ∧ n + d ≤ 9223372036854775807
  · have H1 : Hid (Tx.incr (bs (Num.fmt n)).data.toList d = (Num.fmt (n + d), n + d, 0)) := Lib.hid (by rw [bs_data, incr_fmt n d hn, show Num.add n d = some (n + d) from if_pos h])
    have hfl2 := Num.fmt_length (n + d)
    have hsz2 : (bs (Num.fmt (n + d))).size ≤ maxLen := by rw [bs_size]; unfold maxLen; omega
    obtain ⟨hm1, hm2⟩ := h
    obtain ⟨m, hm⟩ : ∃ m, m = n + d := ⟨_, rfl⟩
    rw [← hm] at H1 hm1 hm2 hsz2
    have Hm := Lib.hid hm
    clear hm hfl hfl2
    by_cases hmin : d = -9223372036854775808
    · subst hmin
      go_enter Try.func9, Try.ntmps9
      go_wp2_with fail
      refine (ref_format n _ hn.1 hn.2).mono ?_
      rintro e w1 ⟨rfl, rfl⟩
      go_wp2_with fail
      refine (incr_is _ _ _ _ _ _ hsz hd H1.out).mono ?_
      rintro e w2 ⟨rfl, hb2⟩
      go_wp2_with fail
      refine (ref_format m _ hm1 hm2).mono ?_
      rintro e w3 ⟨rfl, rfl⟩
      go_wp2_with fail
      refine (ref_format m _ hm1 hm2).mono ?_
      rintro e w3 ⟨rfl, rfl⟩
      go_wp2_with fail
      refine (known11_any _).mono ?_
      rintro e w9 ⟨rfl, hb9⟩
      go_wp2_with fail
      go_ret
      exact ⟨rfl, below_trans hb2 hb9⟩
    · have hne : (d == -9223372036854775808) = false := by simpa using hmin
      have hwd : wrap64 (-d) = -d := IntWalk.wrap64_in _ (by omega)
      have H2 : Hid (Tx.incr (bs (Num.fmt m)).data.toList (-d) = (Num.fmt n, n, 0)) := Lib.hid (by
        have hmn : m + -d = n := by have := Hm.out; omega
        rw [bs_data, incr_fmt m (-d) ⟨hm1, hm2⟩, show Num.add m (-d) = some (m + -d) from if_pos (by omega), hmn])
      have hdn : -9223372036854775808 ≤ -d ∧ -d ≤ 9223372036854775807 := by omega
      clear hmin
      go_enter Try.func9, Try.ntmps9
      go_wp2_with fail
      refine (ref_format n _ hn.1 hn.2).mono ?_
      rintro e w1 ⟨rfl, rfl⟩
      go_wp2_with fail
      refine (incr_is _ _ _ _ _ _ hsz hd H1.out).mono ?_
      rintro e w2 ⟨rfl, hb2⟩
      go_wp2_with fail
      refine (ref_format m _ hm1 hm2).mono ?_
      rintro e w3 ⟨rfl, rfl⟩
      go_wp2_with fail
      refine (incr_is _ _ _ _ _ _ hsz2 hdn H2.out).mono ?_
      rintro e w4 ⟨rfl, hb4⟩
      go_wp2_with fail
      refine (ref_format n _ hn.1 hn.2).mono ?_
      rintro e w5 ⟨rfl, rfl⟩
      go_wp2_with fail
      refine (known11_any _).mono ?_
      rintro e w9 ⟨rfl, hb9⟩
      go_wp2_with fail
      go_ret
      exact ⟨rfl, below_trans (below_trans hb2 hb4) hb9⟩
  · have H1 : Hid (Tx.incr (bs (Num.fmt n)).data.toList d = ([], 0, 6)) := Lib.hid (by rw [bs_data, incr_fmt n d hn, show Num.add n d = none from if_neg h])
    rcases (show (0 < d ∧ 9223372036854775807 - d < n) ∨ (d < 0 ∧ n < -9223372036854775808 - d) from by omega) with ⟨h1, h2⟩ | ⟨h1, h2⟩
    all_goals
      clear h hfl
      go_enter Try.func9, Try.ntmps9
      go_wp2_with fail
      refine (ref_format n _ hn.1 hn.2).mono ?_
      rintro e w1 ⟨rfl, rfl⟩
      go_wp2_with fail
      refine (incr_is _ _ _ _ _ _ hsz hd H1.out).mono ?_
      rintro e w2 ⟨rfl, hb2⟩
      go_wp2_with fail
      refine (known11_any _).mono ?_
      rintro e w9 ⟨rfl, hb9⟩
      go_wp2_with fail
      go_ret
      exact ⟨rfl, below_trans hb2 hb9⟩

set_option maxHeartbeats 4000000 in
theorem textCounts_walk (s : ByteArray) (at' : Int) (w : World) (hs : s.size ≤ maxLen) (ha : -9223372036854775808 ≤ at' ∧ at' ≤ 9223372036854775807) :
    Calls Try.prog 10 #[.string s, .int .i64 at'] w fun e w' => e = .returned (.bool true) ∧ Below w.heap.size w w' := by
  obtain ⟨S, hS⟩ : ∃ S, S = s.data.toList.take 100 := ⟨_, rfl⟩
  have hSl : S.length ≤ 100 := by rw [hS, List.length_take]; omega
  have hs1 : (bs S).size ≤ 1048576 := by rw [bs_size]; omega
  have Hc1 := Lib.hid (cut_any s 100 w hs (by omega))
  rw [← hS] at Hc1
  clear hS
  have hall : Hid (Tx.count (bs S).data.toList 0 (-1) = Tx.pops S) := Lib.hid (by rw [bs_data, Tx.count_all])
  have hpb := Tx.pops_le S
  by_cases h0 : S.length = 0
  · have hp0 : Tx.pops S = 0 := by omega
    have hn : S = [] := List.eq_nil_of_length_eq_zero h0
    have Hp0 := Lib.hid hp0
    subst hn
    clear hp0 h0 hpb
    go_enter Try.func10, Try.ntmps10
    go_wp2_with fail
    refine Hc1.out.mono ?_
    rintro e w1 ⟨rfl, rfl⟩
    clear Hc1
    go_wp2_with fail
    refine (count_is (bs []) 0 (-1) _ 0 (by omega) (by omega) hs1 (by rw [hall.out, Hp0.out])).mono ?_
    rintro e w1 ⟨rfl, hb1⟩
    go_wp2_with fail
    refine (known11_any _).mono ?_
    rintro e w9 ⟨rfl, hb9⟩
    go_wp2_with fail
    go_ret
    exact ⟨rfl, below_trans hb1 hb9⟩
  · have h0' : ((S.length : Int) == 0) = false := by rw [beq_eq_false_iff_ne]; omega
    go_enter Try.func10, Try.ntmps10
    go_wp2_with fail
    refine Hc1.out.mono ?_
    rintro e w1 ⟨rfl, rfl⟩
    clear Hc1
    go_wp2_with fail
    refine (within_nat at' _ _ ha (by omega) (by omega)).mono ?_
    rintro e w1 ⟨k, hk, rfl, rfl⟩
    have hkl : k < S.length := by omega
    have hsp := Tx.pops_split S k hkl
    have h1 : Hid (Tx.count (bs S).data.toList k k = Tx.pop S[k]) := Lib.hid (by rw [bs_data, Tx.count_one S k hkl])
    have h2 : Hid (Tx.count (bs S).data.toList ((k : Int) + 1) (-1) = Tx.pops (S.drop (k + 1))) := Lib.hid (by rw [bs_data, show (k : Int) + 1 = ((k + 1 : Nat) : Int) from by omega, Tx.count_from])
    have hp8 := Tx.pop_le S[k]
    obtain ⟨p, hp⟩ : ∃ p, Tx.pop S[k] = p := ⟨_, rfl⟩
    obtain ⟨q, hq⟩ : ∃ q, Tx.pops (S.drop (k + 1)) = q := ⟨_, rfl⟩
    obtain ⟨r, hr⟩ : ∃ r, Tx.pops (S.take k) = r := ⟨_, rfl⟩
    obtain ⟨z, hz⟩ : ∃ z, Tx.pops S = z := ⟨_, rfl⟩
    rw [hp, hq, hr, hz] at hsp
    rw [hp] at hp8 h1
    rw [hq] at h2
    rw [hz] at hpb hall
    have h3 : Hid (0 < k → Tx.count (bs S).data.toList 0 ((k : Int) - 1) = r) := Lib.hid (fun hk0 => by rw [bs_data, show (k : Int) - 1 = ((k - 1 : Nat) : Int) from by omega, Tx.count_to S (k - 1) (by omega), show k - 1 + 1 = k from by omega, hr])
    have h4 : ¬ 0 < k → r = 0 := fun hk0 => by rw [← hr, show k = 0 from by omega]; rfl
    have h5 : ¬ k + 1 < S.length → q = 0 := fun hk0 => by rw [← hq, List.drop_eq_nil_of_le (show S.length ≤ k + 1 by omega)]; rfl
    have H4 := Lib.hid h4
    have H5 := Lib.hid h5
    have Hsp := Lib.hid hsp
    clear hp hq hr hz hsp h4 h5 hk h0
    have hk1 : -9223372036854775808 ≤ (k : Int) ∧ (k : Int) ≤ 9223372036854775807 := by omega
    have hk2 : -9223372036854775808 ≤ (k : Int) + 1 ∧ (k : Int) + 1 ≤ 9223372036854775807 := by omega
    have hk3 : -9223372036854775808 ≤ (k : Int) - 1 ∧ (k : Int) - 1 ≤ 9223372036854775807 := by omega
    go_wp2_with fail
    refine (count_is (bs S) 0 (-1) _ z (by omega) (by omega) hs1 hall.out).mono ?_
    rintro e w1 ⟨rfl, hb1⟩
    go_wp2_with fail
    refine (count_is (bs S) k k _ p hk1 hk1 hs1 h1.out).mono ?_
    rintro e w2 ⟨rfl, hb2⟩
    go_wp2_with fail
    refine (count_is (bs S) ((k : Int) + 1) (-1) _ q hk2 (by omega) hs1 h2.out).mono ?_
    rintro e w3 ⟨rfl, hb3⟩
    have hrb : r ≤ 800 := by have := Hsp.out; omega
    have hqb : q ≤ 800 := by have := Hsp.out; omega
    by_cases hk0 : 0 < k
    · by_cases hkn : k + 1 < S.length
      · have he : ((z : Int) == (p : Int) + q + r) = true := by have := Hsp.out; rw [beq_iff_eq]; omega
        clear H4 H5 Hsp
        go_wp2_with fail
        refine (count_is (bs S) 0 ((k : Int) - 1) _ r (by omega) hk3 hs1 (h3.out hk0)).mono ?_
        rintro e w4 ⟨rfl, hb4⟩
        go_wp2_with fail
        refine (known11_any _).mono ?_
        rintro e w9 ⟨rfl, hb9⟩
        go_wp2_with fail
        go_ret
        exact ⟨rfl, below_trans (below_trans (below_trans (below_trans hb1 hb2) hb3) hb4) hb9⟩
      · have he : ((z : Int) == (p : Int) + r) = true := by have := Hsp.out; have := H5.out hkn; rw [beq_iff_eq]; omega
        clear H4 H5 Hsp
        go_wp2_with fail
        refine (count_is (bs S) 0 ((k : Int) - 1) _ r (by omega) hk3 hs1 (h3.out hk0)).mono ?_
        rintro e w4 ⟨rfl, hb4⟩
        go_wp2_with fail
        refine (known11_any _).mono ?_
        rintro e w9 ⟨rfl, hb9⟩
        go_wp2_with fail
        go_ret
        exact ⟨rfl, below_trans (below_trans (below_trans (below_trans hb1 hb2) hb3) hb4) hb9⟩
    · by_cases hkn : k + 1 < S.length
      · have he : ((z : Int) == (p : Int) + q) = true := by have := Hsp.out; have := H4.out hk0; rw [beq_iff_eq]; omega
        clear H4 H5 Hsp
        go_wp2_with fail
        refine (known11_any _).mono ?_
        rintro e w9 ⟨rfl, hb9⟩
        go_wp2_with fail
        go_ret
        exact ⟨rfl, below_trans (below_trans (below_trans hb1 hb2) hb3) hb9⟩
      · have he : ((z : Int) == (p : Int)) = true := by have := Hsp.out; have := H5.out hkn; have := H4.out hk0; rw [beq_iff_eq]; omega
        clear H4 H5 Hsp
        go_wp2_with fail
        refine (known11_any _).mono ?_
        rintro e w9 ⟨rfl, hb9⟩
        go_wp2_with fail
        go_ret
        exact ⟨rfl, below_trans (below_trans (below_trans hb1 hb2) hb3) hb9⟩
end Go.Proofs.Ytppfmgdooflllaa
