/- The walks of the reference of chapter 2. -/
import Derived.Test.YtjdnpgdedbegfaaDoorNum
namespace Go.Proofs.YtjdnpgdedbegfaaDoor
open Go.RowKit
set_option linter.unusedVariables false

/-- Where the loop of the reference's Unsigned stands. -/
def RefR (n m : Nat) (acc : List UInt8) : Prop :=
  (m = 0 ∧ acc ≠ [] ∧ acc = Num.uns n) ∨ ((m ≠ 0 ∨ acc = []) ∧ ∃ f, Num.ugo (f + 1) m acc = Num.uns n ∧ m < 10 ^ (f + 1) ∧ acc.length + f = 19)
def lenOf : Value → Nat
  | .string s => s.size
  | _ => 0
theorem RefR.start (n : Nat) (h : n < 18446744073709551616) : RefR n n [] := .inr ⟨.inr rfl, 19, rfl, Nat.lt_trans h Num.ten20, rfl⟩
theorem RefR.next {n m : Nat} {acc : List UInt8} (h : RefR n m acc) (hg : m ≠ 0 ∨ acc = []) : RefR n (m / 10) (Num.dg (m % 10) :: acc) ∧ acc.length ≤ 19 := by
  rcases h with ⟨h0, h1, _⟩ | ⟨_, f, hu, hm, hl⟩
  · rcases hg with hg | hg <;> contradiction
  · by_cases h0 : m / 10 = 0
    · exact ⟨.inl ⟨h0, by simp, Num.ugo_last hu h0⟩, by omega⟩
    · obtain ⟨f', rfl, hu', hm'⟩ := Num.ugo_round hu hm h0
      exact ⟨.inr ⟨.inl h0, f', hu', hm', by simp; omega⟩, by omega⟩
theorem RefR.stop {n m : Nat} {acc : List UInt8} (h : RefR n m acc) (h0 : m = 0) (h1 : acc ≠ []) : acc = Num.uns n := by
  rcases h with ⟨_, _, h⟩ | ⟨hh, _⟩
  · exact h
  · rcases hh with hh | hh <;> contradiction

theorem enc_ascii (c : Nat) (h : c < 128) : Utf8.encode (c : Int) = bs [UInt8.ofNat c] := by
  have hv : Utf8.valid (c : Int) = true := by simp [Utf8.valid]; omega
  unfold Utf8.encode
  simp only [hv, if_true, Int.toNat_natCast]
  rw [if_pos h]
  rfl
theorem enc_dg (m : Nat) : Utf8.encode (48 + (m : Int) % 10) = bs [Num.dg (m % 10)] := by
  have := enc_ascii (48 + m % 10) (by omega)
  rw [show ((48 + m % 10 : Nat) : Int) = 48 + (m : Int) % 10 from by omega] at this
  exact this

set_option maxHeartbeats 400000 in
theorem ref_unsigned (n : Nat) (w : World) (hn : n < 18446744073709551616) :
    Calls Tryd.prog 40 #[.int .u64 n] w fun e w' => e = .returned (sv (Num.uns n)) ∧ w = w' := by
  have HS := Lib.hid (RefR.start n hn)
  go_enter Tryd.func40, Tryd.ntmps40
  go_wp2
  go_loop [0, 3] (fun x v => ∃ (m : Nat) (acc : List UInt8), m < 18446744073709551616 ∧ x = .int .u64 m ∧ v = sv acc ∧ RefR n m acc)
    (fun x v => 2 * (intOf x).toNat + (1 - lenOf v))
  case atStart => exact ⟨n, [], hn, rfl, rfl, HS.out⟩
  case round =>
    obtain ⟨m, acc, hm, rfl, rfl, hr⟩ := hrel
    have Hr := Lib.hid hr
    have he := enc_dg m
    clear hr HS
    by_cases h0 : 0 < m
    · have hl := (Hr.out.next (.inl (by omega))).2
      go_wp2
      refine ⟨⟨m / 10, Num.dg (m % 10) :: acc, by omega, by go_num, by rw [bs_append]; rfl, (Hr.out.next (.inl (by omega))).1⟩, ?_⟩
      simp [intOf, lenOf]
      omega
    · have hm0 : m = 0 := by omega
      subst hm0
      clear he
      rcases acc with _ | ⟨c, t⟩
      · have he : Utf8.encode 48 = bs [48] := enc_ascii 48 (by omega)
        go_wp2
        refine ⟨⟨0, [48], by omega, by go_num, by rw [bs_append]; rfl, (Hr.out.next (.inr rfl)).1⟩, ?_⟩
        simp [intOf, lenOf]
      · have hs := Lib.hid (Hr.out.stop rfl (by simp))
        go_wp2
        go_ret
        exact ⟨str_ret (by rw [hs.out]), rfl⟩

theorem ref_unsigned_int (n : Int) (w : World) (h0 : 0 ≤ n) (hn : n < 18446744073709551616) :
    Calls Tryd.prog 40 #[.int .u64 n] w fun e w' => e = .returned (sv (Num.uns n.toNat)) ∧ w = w' := by
  obtain ⟨n, rfl⟩ := Int.eq_ofNat_of_zero_le h0
  exact ref_unsigned n w (by omega)

set_option maxHeartbeats 400000 in
theorem ref_format (n : Int) (w : World) (h1 : -9223372036854775808 ≤ n) (h2 : n ≤ 9223372036854775807) :
    Calls Tryd.prog 28 #[.int .i64 n] w fun e w' => e = .returned (sv (Num.fmt n)) ∧ w = w' := by
  by_cases h : n < 0
  · have hw := neg_wrap n h1 h
    have hul := (Num.uns_length (-n).toNat)
    have hn : n.natAbs = (-n).toNat := by omega
    have hf : Num.fmt n = 45 :: Num.uns (-n).toNat := by unfold Num.fmt; rw [if_pos h, hn]
    have Hf := Lib.hid hf
    clear hf hn
    have hadd := run_string_add_sum (P := Tryd.prog) w ⟨#[45]⟩ (bs (Num.uns (-n).toNat)) (by rw [bs_size]; show 1 + _ ≤ _; omega)
    go_enter Tryd.func28, Tryd.ntmps28
    go_wp2_with (go_at_call 40; refine (ref_unsigned_int _ _ (by omega) (by omega)).mono ?_; rintro e w' ⟨rfl, rfl⟩)
    go_ret
    exact ⟨str_ret (by rw [Hf.out]; exact bs_append [45] _), rfl⟩
  · have hf : Num.fmt n = Num.uns n.toNat := by unfold Num.fmt; rw [if_neg h]
    have Hf := Lib.hid hf
    clear hf
    go_enter Tryd.func28, Tryd.ntmps28
    go_wp2_with (go_at_call 40; refine (ref_unsigned_int _ _ (by omega) (by omega)).mono ?_; rintro e w' ⟨rfl, rfl⟩)
    go_ret
    exact ⟨str_ret (by rw [Hf.out]), rfl⟩

set_option maxHeartbeats 400000 in
theorem ref_cursor (s : ByteArray) (w : World) (hl : s.size ≤ maxLen) :
    Calls Tryd.prog 53 #[.string s] w fun e w' => e = .returned (.tuple #[.int .u64 ((Num.cur s.data.toList).getD 0 : Nat), .bool (Num.cur s.data.toList).isSome]) ∧ w = w' := by
  unfold maxLen at hl
  have hsz : s.data.toList.length = s.size := by rw [Array.length_toList]; rfl
  by_cases h1 : s.size < 1
  · have hc := Lib.hid (Num.cur_none_short (l := s.data.toList) (by rw [hsz]; exact h1))
    clear hsz
    go_enter Tryd.func53, Tryd.ntmps53
    go_wp2
    go_ret2
    exact ⟨ret_cur hc.out, rfl⟩
  · by_cases h2 : 20 < s.size
    · have hc := Lib.hid (Num.cur_none_long (l := s.data.toList) (by rw [hsz]; exact h2))
      clear hsz
      go_enter Tryd.func53, Tryd.ntmps53
      go_wp2
      go_ret2
      exact ⟨ret_cur hc.out, rfl⟩
    · obtain ⟨r, hr⟩ : ∃ r, Num.cur s.data.toList = r := ⟨_, rfl⟩
      have hc := (Num.cur_mid (l := s.data.toList) (by omega) (by omega)).symm.trans hr
      rw [hr]
      have Hc := Lib.hid hc
      clear hsz hc hr
      go_enter Tryd.func53, Tryd.ntmps53
      go_wp2
      go_loop [4, 5] (fun x i => ∃ k m : Nat, k ≤ s.size ∧ m < 18446744073709551616 ∧ i = .int .i64 k ∧ x = .int .u64 m ∧ Num.cgo (s.data.toList.drop k) m = r) (fun _ i => s.size - (intOf i).toNat)
      case atStart => exact ⟨0, 0, Nat.zero_le _, by omega, rfl, rfl, Hc.out⟩
      case round =>
        obtain ⟨k, m, hk, hm, rfl, rfl, hg⟩ := hrel
        have Hg := Lib.hid hg
        clear hg Hc
        by_cases hlt : k < s.size
        · have Hd := Lib.hid (Num.drop_cons_str s k hlt)
          have hb := UInt8.toNat_lt s[k]
          by_cases hc : s[k].toNat < 48 ∨ 57 < s[k].toNat
          · have hn := Lib.hid (Num.cgo_bad (r := r) (by rw [← Hd.out]; exact Hg.out) hc)
            rcases hc with hc | hc
            · go_wp2
              go_ret2
              exact ⟨ret_cur (P := r) hn.out, rfl⟩
            · go_wp2
              go_ret2
              exact ⟨ret_cur (P := r) hn.out, rfl⟩
          · have hc1 : 48 ≤ s[k].toNat := by omega
            have hc2 : s[k].toNat ≤ 57 := by omega
            have Hc := Lib.hid hc
            clear hc
            go_wp2
            · have ho : (18446744073709551615 - ((s[k].toNat : Int) - 48)) / 10 < (m : Int) := by assumption
              have hn := Num.cgo_over (r := r) (by rw [← Hd.out]; exact Hg.out) Hc.out (by omega)
              go_ret2
              exact ⟨ret_cur (P := r) hn, rfl⟩
            · have ho : (m : Int) ≤ (18446744073709551615 - ((s[k].toNat : Int) - 48)) / 10 := by assumption
              have hn := Num.cgo_next (r := r) (by rw [← Hd.out]; exact Hg.out) Hc.out (by omega)
              refine ⟨⟨k + 1, m * 10 + (s[k].toNat - 48), by omega, by omega, by go_num, ?_, hn⟩, by simp [intOf]; omega⟩
              congr 1; omega
        · have hk2 : k = s.size := by omega
          have hn : Num.cgo (s.data.toList.drop k) m = some m := by
            rw [List.drop_of_length_le (by rw [Array.length_toList]; show s.size ≤ k; omega)]; rfl
          have Hn := Lib.hid (Hg.out.symm.trans hn)
          clear hn hk2
          go_wp2
          go_ret2
          exact ⟨ret_cur (P := r) (o := some m) Hn.out, rfl⟩

theorem ref_cursor_some (s : ByteArray) (u : Nat) (w : World) (hl : s.size ≤ maxLen) (h : Num.cur s.data.toList = some u) :
    Calls Tryd.prog 53 #[.string s] w fun e w' => e = .returned (.tuple #[.int .u64 u, .bool true]) ∧ w = w' :=
  (ref_cursor s w hl).mono fun e w' ⟨he, hw⟩ => ⟨by rw [he, h]; rfl, hw⟩
theorem ref_cursor_none (s : ByteArray) (w : World) (hl : s.size ≤ maxLen) (h : Num.cur s.data.toList = none) :
    Calls Tryd.prog 53 #[.string s] w fun e w' => e = .returned (.tuple #[.int .u64 0, .bool false]) ∧ w = w' :=
  (ref_cursor s w hl).mono fun e w' ⟨he, hw⟩ => ⟨by rw [he, h]; rfl, hw⟩

set_option maxHeartbeats 1000000 in
theorem ref_parse (s : ByteArray) (w : World) (hl : s.size ≤ maxLen) :
    Calls Tryd.prog 46 #[.string s] w fun e w' => e = .returned (.tuple #[.int .i64 ((Num.prs s.data.toList).getD 0), .bool (Num.prs s.data.toList).isSome]) ∧ w = w' := by
  have hl' := hl
  unfold maxLen at hl
  by_cases h1 : 0 < s.size
  · by_cases hm : (s[0].toNat : Int) = 45
    · have hbl : Num.below s.data.toList = true := by rw [Num.below_str s h1]; simpa using hm
      have hre := Num.rest_str s hbl
      have hsz : (s.extract 1 s.size).size ≤ maxLen := by simp; omega
      rcases hcu : Num.cur (Num.rest s.data.toList) with _ | u
      · have Hp := Lib.hid (Num.prs_none hcu)
        have Hc : Hid (Num.cur (s.extract 1 s.size).data.toList = none) := Lib.hid (by rw [← hre]; exact hcu)
        clear hcu hre hbl
        go_enter Tryd.func46, Tryd.ntmps46
        go_wp2_with (go_at_call 53; refine (ref_cursor_none _ _ hsz Hc.out).mono ?_; rintro e w' ⟨rfl, rfl⟩)
        go_ret2
        exact ⟨ret_prs Hp.out, rfl⟩
      · have hu := Num.cur_lt hcu
        have hbd := Num.sig_bd u hu
        have hbd2 := Num.ngt_bd _ hbd
        have hv := Num.val_t (l := s.data.toList) u hbl
        have Hc : Hid (Num.cur (s.extract 1 s.size).data.toList = some u) := Lib.hid (by rw [← hre]; exact hcu)
        have e1 := sig_wrap u hu
        have e2 := ngt_wrap _ hbd
        have hf : (Num.fmt (Num.ngt (Num.sig u)) == s.toList) = true ∨ (Num.fmt (Num.ngt (Num.sig u)) == s.toList) = false := by cases (Num.fmt (Num.ngt (Num.sig u)) == s.toList) <;> simp
        rcases hf with hf | hf
        · have Hp : Hid (Num.prs s.data.toList = some (Num.ngt (Num.sig u))) := Lib.hid (by rw [← hv]; exact Num.prs_hit hcu (by rw [hv, ← ByteArray.toList_eq]; exact hf))
          clear hcu hre hbl hv
          go_enter Tryd.func46, Tryd.ntmps46
          go_wp2_with (first | (go_at_call 53; refine (ref_cursor_some _ u _ hsz Hc.out).mono ?_; rintro e w' ⟨rfl, rfl⟩) | (go_at_call 28; refine (ref_format _ _ hbd2.1 hbd2.2).mono ?_; rintro e w' ⟨rfl, rfl⟩))
          go_ret2
          exact ⟨ret_prs Hp.out, rfl⟩
        · have Hp : Hid (Num.prs s.data.toList = none) := Lib.hid (Num.prs_miss hcu (by rw [hv, ← ByteArray.toList_eq]; exact hf))
          clear hcu hre hbl hv
          go_enter Tryd.func46, Tryd.ntmps46
          go_wp2_with (first | (go_at_call 53; refine (ref_cursor_some _ u _ hsz Hc.out).mono ?_; rintro e w' ⟨rfl, rfl⟩) | (go_at_call 28; refine (ref_format _ _ hbd2.1 hbd2.2).mono ?_; rintro e w' ⟨rfl, rfl⟩))
          go_ret2
          exact ⟨ret_prs Hp.out, rfl⟩
    · have hbl : Num.below s.data.toList = false := by rw [Num.below_str s h1]; simpa using hm
      have hre := Num.rest_all s hbl
      rcases hcu : Num.cur (Num.rest s.data.toList) with _ | u
      · have Hp := Lib.hid (Num.prs_none hcu)
        have Hc : Hid (Num.cur s.data.toList = none) := Lib.hid (by rw [← hcu, hre])
        clear hcu hre hbl
        go_enter Tryd.func46, Tryd.ntmps46
        go_wp2_with (go_at_call 53; refine (ref_cursor_none _ _ hl' Hc.out).mono ?_; rintro e w' ⟨rfl, rfl⟩)
        go_ret2
        exact ⟨ret_prs Hp.out, rfl⟩
      · have hu := Num.cur_lt hcu
        have hbd := Num.sig_bd u hu
        have hv := Num.val_f (l := s.data.toList) u hbl
        have Hc : Hid (Num.cur s.data.toList = some u) := Lib.hid (by rw [← hcu, hre])
        have e1 := sig_wrap u hu
        have hf : (Num.fmt (Num.sig u) == s.toList) = true ∨ (Num.fmt (Num.sig u) == s.toList) = false := by cases (Num.fmt (Num.sig u) == s.toList) <;> simp
        rcases hf with hf | hf
        · have Hp : Hid (Num.prs s.data.toList = some (Num.sig u)) := Lib.hid (by rw [← hv]; exact Num.prs_hit hcu (by rw [hv, ← ByteArray.toList_eq]; exact hf))
          clear hcu hre hbl hv
          go_enter Tryd.func46, Tryd.ntmps46
          go_wp2_with (first | (go_at_call 53; refine (ref_cursor_some _ u _ hl' Hc.out).mono ?_; rintro e w' ⟨rfl, rfl⟩) | (go_at_call 28; refine (ref_format _ _ hbd.1 hbd.2).mono ?_; rintro e w' ⟨rfl, rfl⟩))
          go_ret2
          exact ⟨ret_prs Hp.out, rfl⟩
        · have Hp : Hid (Num.prs s.data.toList = none) := Lib.hid (Num.prs_miss hcu (by rw [hv, ← ByteArray.toList_eq]; exact hf))
          clear hcu hre hbl hv
          go_enter Tryd.func46, Tryd.ntmps46
          go_wp2_with (first | (go_at_call 53; refine (ref_cursor_some _ u _ hl' Hc.out).mono ?_; rintro e w' ⟨rfl, rfl⟩) | (go_at_call 28; refine (ref_format _ _ hbd.1 hbd.2).mono ?_; rintro e w' ⟨rfl, rfl⟩))
          go_ret2
          exact ⟨ret_prs Hp.out, rfl⟩
  · have hbl := Num.below_nil s h1
    have hcu : Num.cur s.data.toList = none := Num.cur_none_short (by rw [Array.length_toList]; show s.size < 1; omega)
    have Hp := Lib.hid (Num.prs_none (l := s.data.toList) (by rw [Num.rest_all s hbl]; exact hcu))
    have Hc := Lib.hid hcu
    clear hcu hbl
    go_enter Tryd.func46, Tryd.ntmps46
    go_wp2_with (go_at_call 53; refine (ref_cursor_none _ _ hl' Hc.out).mono ?_; rintro e w' ⟨rfl, rfl⟩)
    go_ret2
    exact ⟨ret_prs Hp.out, rfl⟩


end Go.Proofs.YtjdnpgdedbegfaaDoor
