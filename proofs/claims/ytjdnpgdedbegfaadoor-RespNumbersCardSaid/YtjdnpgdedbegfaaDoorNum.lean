/- The walks of the package num. -/
import Derived.Test.YtjdnpgdedbegfaaDoorBase
import Derived.Test.YtjdnpgdedbegfaaDoorNumP
namespace Go.Proofs.YtjdnpgdedbegfaaDoor
open Go.RowKit
set_option linter.unusedVariables false

set_option maxRecDepth 100000 in
set_option maxHeartbeats 400000 in
theorem unsigned_any (n : Nat) (w : World) (hn : n < 18446744073709551616) :
    Calls Tryd.prog 43 #[.int .u64 n] w fun e w' => e = .returned (sv (Num.uns n)) ∧ Below w.heap.size w w' := by
  obtain ⟨i0, hi, hz0, hz1, hz2⟩ := info_parts u8info
  obtain ⟨B, hB⟩ : ∃ B, B = w.heap.size := ⟨_, rfl⟩
  rw [← hB]
  have HB := Lib.hid hB
  clear hB
  go_enter Tryd.func43, Tryd.ntmps43
  go_wp2
  go_loopw [0, 3] (fun x v wr => ∃ (m f : Nat) (acc : List UInt8), m < 18446744073709551616 ∧ x = .int .u64 m ∧ Num.ugo (f + 1) m acc = Num.uns n ∧ m < 10 ^ (f + 1) ∧ acc.length + f = 19 ∧ OB wr B 5 v acc ∧ Below B w wr)
    (fun x _ _ => (intOf x).toNat)
  case atStart => exact ⟨n, 19, [], hn, rfl, rfl, Nat.lt_trans hn Num.ten20, rfl, OB.nil _ _ _, Below.refl _ _⟩
  case round =>
    obtain ⟨m, f, acc, hm, rfl, hu, hmf, hl, hob, hbel⟩ := hrel
    have Hu := Lib.hid hu
    have Hmf := Lib.hid hmf
    clear hu hmf
    have hbs : B ≤ wr.heap.size := by rw [HB.out]; exact hbel.size
    go_wp2_with (first
      | (at_builtin
         refine wpList_append_Own _ rfl (.tmp 8) (.tmp 9) _ _ rfl B 5 i0 _ 1 1 Tryd.underlying23 hi hz0 hz1 hz2 rfl (.slice (some ⟨wr.heap.size, 0, none⟩) 1 1) 1 [.int .u8 (48 + (m : Int) % 10)] rfl (Own.lit wr #[.int .u8 (48 + (m : Int) % 10)] 1 hbs (by decide) rfl) _ acc.length (bv acc) rfl (Src.own (hob.alloc _) Tryd.underlying23 (bv_one acc) (by decide)) (by unfold maxLen; omega) (by omega) (by simp; omega) ?_
         intro v1 w1 hO hg hb
         have hOB : OB w1 B 5 v1 (Num.dg (m % 10) :: acc) := OB.mk hO (by simp [bv, Num.dg_int])
         have hcv := hOB.string (P := Tryd.prog) Tryd.underlying23 Tryd.underlying5 Tryd.underlying9))
    case roundEnd =>
      have h0 : ((m : Int) / 10 == 0) = false := by assumption
      have h1 : ¬ m / 10 = 0 := by intro e; rw [beq_eq_false_iff_ne] at h0; omega
      obtain ⟨f', rfl, hr, hmr⟩ := Num.ugo_round Hu.out Hmf.out h1
      have hb2 : Below B w w1 := (hbel.alloc hbs _).grown hg (by simp; omega) (by intro k hk; simp [Value.ownBlock] at hk; omega)
      exact ⟨⟨m / 10, f', _, by omega, by go_num, hr, hmr, by simp; omega, hOB, hb2⟩, by simp [intOf]; omega⟩
    · have h0 : ((m : Int) / 10 == 0) = true := by assumption
      have h1 : m / 10 = 0 := by rw [beq_iff_eq] at h0; omega
      have hb2 : Below B w w1 := (hbel.alloc hbs _).grown hg (by simp; omega) (by intro k hk; simp [Value.ownBlock] at hk; omega)
      have hlast := Num.ugo_last Hu.out h1
      go_ret
      exact ⟨ret_str (by rw [← hlast]), hb2⟩

theorem unsigned_int (n : Int) (w : World) (h0 : 0 ≤ n) (hn : n < 18446744073709551616) :
    Calls Tryd.prog 43 #[.int .u64 n] w fun e w' => e = .returned (sv (Num.uns n.toNat)) ∧ Below w.heap.size w w' := by
  obtain ⟨n, rfl⟩ := Int.eq_ofNat_of_zero_le h0
  exact unsigned_any n w (by omega)

theorem neg_wrap (n : Int) (h1 : -9223372036854775808 ≤ n) (h : n < 0) : IntKind.u64.wrap (-IntKind.u64.wrap n) = -n := by
  rw [IntKind.wrap_u64, IntKind.wrap_u64]; omega

set_option maxRecDepth 100000 in
set_option maxHeartbeats 400000 in
theorem format_any (n : Int) (w : World) (h1 : -9223372036854775808 ≤ n) (h2 : n ≤ 9223372036854775807) :
    Calls Tryd.prog 31 #[.int .i64 n] w fun e w' => e = .returned (sv (Num.fmt n)) ∧ Below w.heap.size w w' := by
  by_cases h : n < 0
  · have hw := neg_wrap n h1 h
    have hul := (Num.uns_length (-n).toNat)
    have hn : n.natAbs = (-n).toNat := by omega
    have hf : Num.fmt n = 45 :: Num.uns (-n).toNat := by unfold Num.fmt; rw [if_pos h, hn]
    have Hf := Lib.hid hf
    clear hf hn
    go_enter Tryd.func31, Tryd.ntmps31
    go_wp2_with (go_at_call 43; refine (unsigned_int _ _ (by omega) (by omega)).mono ?_; rintro e w' ⟨rfl, hb⟩; have hadd := run_string_add_sum (P := Tryd.prog) w' ⟨#[45]⟩ (bs (Num.uns (-n).toNat)) (by rw [bs_size]; show 1 + _ ≤ _; omega))
    go_ret
    exact ⟨str_ret (by rw [Hf.out]; exact bs_append [45] _), hb⟩
  · have hf : Num.fmt n = Num.uns n.toNat := by unfold Num.fmt; rw [if_neg h]
    have Hf := Lib.hid hf
    clear hf
    go_enter Tryd.func31, Tryd.ntmps31
    go_wp2_with (go_at_call 43; refine (unsigned_int _ _ (by omega) (by omega)).mono ?_; rintro e w' ⟨rfl, hb⟩)
    go_ret
    exact ⟨ret_str (by rw [Hf.out]), hb⟩

theorem ret_cur {P : Option Nat} {o : Option Nat} (h : P = o) : Ending.returned (.tuple #[.int .u64 ((o.getD 0 : Nat) : Int), .bool o.isSome]) = .returned (.tuple #[.int .u64 ((P.getD 0 : Nat) : Int), .bool P.isSome]) := by rw [h]

set_option maxRecDepth 100000 in
set_option maxHeartbeats 400000 in
theorem cursor_any (s : ByteArray) (w : World) (hl : s.size ≤ maxLen) :
    Calls Tryd.prog 44 #[.string s] w fun e w' => e = .returned (.tuple #[.int .u64 ((Num.cur s.data.toList).getD 0 : Nat), .bool (Num.cur s.data.toList).isSome]) ∧ w = w' := by
  unfold maxLen at hl
  have hsz : s.data.toList.length = s.size := by rw [Array.length_toList]; rfl
  by_cases h1 : s.size < 1
  · have hc := Lib.hid (Num.cur_none_short (l := s.data.toList) (by rw [hsz]; exact h1))
    clear hsz
    go_enter Tryd.func44, Tryd.ntmps44
    go_wp2
    go_ret2
    exact ⟨ret_cur hc.out, rfl⟩
  · by_cases h2 : 20 < s.size
    · have hc := Lib.hid (Num.cur_none_long (l := s.data.toList) (by rw [hsz]; exact h2))
      clear hsz
      go_enter Tryd.func44, Tryd.ntmps44
      go_wp2
      go_ret2
      exact ⟨ret_cur hc.out, rfl⟩
    · obtain ⟨r, hr⟩ : ∃ r, Num.cur s.data.toList = r := ⟨_, rfl⟩
      have hc := (Num.cur_mid (l := s.data.toList) (by omega) (by omega)).symm.trans hr
      rw [hr]
      have Hc := Lib.hid hc
      clear hsz hc hr
      go_enter Tryd.func44, Tryd.ntmps44
      go_wp2
      go_loop [4, 17] (fun x i => ∃ k m : Nat, k ≤ s.size ∧ m < 18446744073709551616 ∧ i = .int .i64 k ∧ x = .int .u64 m ∧ Num.cgo (s.data.toList.drop k) m = r) (fun _ i => s.size - (intOf i).toNat)
      case atStart => exact ⟨0, 0, Nat.zero_le _, by omega, rfl, rfl, Hc.out⟩
      case round =>
        obtain ⟨k, m, hk, hm, rfl, rfl, hg⟩ := hrel
        have Hg := Lib.hid hg
        clear hg Hc
        by_cases hlt : k < s.size
        · have Hd := Lib.hid (Num.drop_cons_str s k hlt)
          have hb := UInt8.toNat_lt s[k]
          by_cases hc : s[k].toNat < 48 ∨ 57 < s[k].toNat
          · have hw : (10 : Int) ≤ IntKind.u8.wrap ((s[k].toNat : Int) - 48) := by rw [IntKind.wrap_u8]; omega
            go_wp2
            have hn := Num.cgo_bad (r := r) (by rw [← Hd.out]; exact Hg.out) hc
            go_ret2
            exact ⟨ret_cur (P := r) hn, rfl⟩
          · go_wp2
            · have ho : (10 : Int) ≤ (s[k].toNat : Int) - 48 ∨ (18446744073709551615 - ((s[k].toNat : Int) - 48)) / 10 < (m : Int) := by assumption
              have hn := Num.cgo_over (r := r) (by rw [← Hd.out]; exact Hg.out) hc (by omega)
              go_ret2
              exact ⟨ret_cur (P := r) hn, rfl⟩
            · have ho : (s[k].toNat : Int) - 48 < 10 ∧ (m : Int) ≤ (18446744073709551615 - ((s[k].toNat : Int) - 48)) / 10 := by assumption
              have hn := Num.cgo_next (r := r) (by rw [← Hd.out]; exact Hg.out) hc (by omega)
              refine ⟨⟨k + 1, m * 10 + (s[k].toNat - 48), by omega, by omega, by go_num, ?_, hn⟩, by simp [intOf]; omega⟩
              congr 1; omega
        · have hk2 : k = s.size := by omega
          have hn : Num.cgo (s.data.toList.drop k) m = some m := by
            rw [List.drop_of_length_le (by rw [Array.length_toList]; show s.size ≤ k; omega)]; rfl
          have Hn := Lib.hid (Hg.out.symm.trans hn)
          clear hn hk2
          go_wp2
          go_ret2
          exact ⟨ret_cur (P := r) (o := some m) Hn.out, rfl⟩


theorem ret_prs {P : Option Int} {o : Option Int} (h : P = o) : Ending.returned (.tuple #[.int .i64 (o.getD 0), .bool o.isSome]) = .returned (.tuple #[.int .i64 (P.getD 0), .bool P.isSome]) := by rw [h]

theorem cursor_some (s : ByteArray) (u : Nat) (w : World) (hl : s.size ≤ maxLen) (h : Num.cur s.data.toList = some u) :
    Calls Tryd.prog 44 #[.string s] w fun e w' => e = .returned (.tuple #[.int .u64 u, .bool true]) ∧ w = w' :=
  (cursor_any s w hl).mono fun e w' ⟨he, hw⟩ => ⟨by rw [he, h]; rfl, hw⟩
theorem cursor_none (s : ByteArray) (w : World) (hl : s.size ≤ maxLen) (h : Num.cur s.data.toList = none) :
    Calls Tryd.prog 44 #[.string s] w fun e w' => e = .returned (.tuple #[.int .u64 0, .bool false]) ∧ w = w' :=
  (cursor_any s w hl).mono fun e w' ⟨he, hw⟩ => ⟨by rw [he, h]; rfl, hw⟩

theorem sig_wrap (u : Nat) (h : u < 18446744073709551616) : wrap64 (u : Int) = Num.sig u := by unfold Num.sig wrap64; split <;> omega
theorem ngt_wrap (n : Int) (h : -9223372036854775808 ≤ n ∧ n ≤ 9223372036854775807) : wrap64 (-n) = Num.ngt n := by unfold Num.ngt wrap64; split <;> omega

set_option maxRecDepth 100000 in
set_option maxHeartbeats 1000000 in
theorem parse_any (s : ByteArray) (w : World) (hl : s.size ≤ maxLen) :
    Calls Tryd.prog 34 #[.string s] w fun e w' => e = .returned (.tuple #[.int .i64 ((Num.prs s.data.toList).getD 0), .bool (Num.prs s.data.toList).isSome]) ∧ Below w.heap.size w w' := by
  have hl' := hl
  unfold maxLen at hl
  by_cases h1 : 0 < s.size
  · by_cases hm : (s[0].toNat : Int) = 45
    · have hbl : Num.below s.data.toList = true := by rw [Num.below_str s h1]; simpa using hm
      have hre := Num.rest_str s hbl
      have hsz : (s.extract 1 s.size).size ≤ maxLen := by simp; omega
      rcases hcu : Num.cur (Num.rest s.data.toList) with _ | u
      · have Hp := Lib.hid (Num.prs_none hcu)
        have Hc : Hid (Num.cur (s.extract 1 s.size).data.toList = none) := Lib.hid (by rw [← hre]; exact hcu)
        clear hcu hre hbl
        go_enter Tryd.func34, Tryd.ntmps34
        go_wp2_with (go_at_call 44; refine (cursor_none _ _ hsz Hc.out).mono ?_; rintro e w' ⟨rfl, rfl⟩)
        go_ret2
        exact ⟨ret_prs Hp.out, Below.refl _ _⟩
      · have hu := Num.cur_lt hcu
        have hbd := Num.sig_bd u hu
        have hbd2 := Num.ngt_bd _ hbd
        have hv := Num.val_t (l := s.data.toList) u hbl
        have Hc : Hid (Num.cur (s.extract 1 s.size).data.toList = some u) := Lib.hid (by rw [← hre]; exact hcu)
        have e1 := sig_wrap u hu
        have e2 := ngt_wrap _ hbd
        have hf : (Num.fmt (Num.ngt (Num.sig u)) == s.toList) = true ∨ (Num.fmt (Num.ngt (Num.sig u)) == s.toList) = false := by cases (Num.fmt (Num.ngt (Num.sig u)) == s.toList) <;> simp
        rcases hf with hf | hf
        · have Hp : Hid (Num.prs s.data.toList = some (Num.ngt (Num.sig u))) := Lib.hid (by rw [← hv]; exact Num.prs_hit hcu (by rw [hv, ← ByteArray.toList_eq]; exact hf))
          clear hcu hre hbl hv
          go_enter Tryd.func34, Tryd.ntmps34
          go_wp2_with (first | (go_at_call 44; refine (cursor_some _ u _ hsz Hc.out).mono ?_; rintro e w' ⟨rfl, rfl⟩) | (go_at_call 31; refine (format_any _ _ hbd2.1 hbd2.2).mono ?_; rintro e w' ⟨rfl, hb⟩))
          go_ret2
          exact ⟨ret_prs Hp.out, hb⟩
        · have Hp : Hid (Num.prs s.data.toList = none) := Lib.hid (Num.prs_miss hcu (by rw [hv, ← ByteArray.toList_eq]; exact hf))
          clear hcu hre hbl hv
          go_enter Tryd.func34, Tryd.ntmps34
          go_wp2_with (first | (go_at_call 44; refine (cursor_some _ u _ hsz Hc.out).mono ?_; rintro e w' ⟨rfl, rfl⟩) | (go_at_call 31; refine (format_any _ _ hbd2.1 hbd2.2).mono ?_; rintro e w' ⟨rfl, hb⟩))
          go_ret2
          exact ⟨ret_prs Hp.out, hb⟩
    · have hbl : Num.below s.data.toList = false := by rw [Num.below_str s h1]; simpa using hm
      have hre := Num.rest_all s hbl
      rcases hcu : Num.cur (Num.rest s.data.toList) with _ | u
      · have Hp := Lib.hid (Num.prs_none hcu)
        have Hc : Hid (Num.cur s.data.toList = none) := Lib.hid (by rw [← hcu, hre])
        clear hcu hre hbl
        go_enter Tryd.func34, Tryd.ntmps34
        go_wp2_with (go_at_call 44; refine (cursor_none _ _ hl' Hc.out).mono ?_; rintro e w' ⟨rfl, rfl⟩)
        go_ret2
        exact ⟨ret_prs Hp.out, Below.refl _ _⟩
      · have hu := Num.cur_lt hcu
        have hbd := Num.sig_bd u hu
        have hv := Num.val_f (l := s.data.toList) u hbl
        have Hc : Hid (Num.cur s.data.toList = some u) := Lib.hid (by rw [← hcu, hre])
        have e1 := sig_wrap u hu
        have hf : (Num.fmt (Num.sig u) == s.toList) = true ∨ (Num.fmt (Num.sig u) == s.toList) = false := by cases (Num.fmt (Num.sig u) == s.toList) <;> simp
        rcases hf with hf | hf
        · have Hp : Hid (Num.prs s.data.toList = some (Num.sig u)) := Lib.hid (by rw [← hv]; exact Num.prs_hit hcu (by rw [hv, ← ByteArray.toList_eq]; exact hf))
          clear hcu hre hbl hv
          go_enter Tryd.func34, Tryd.ntmps34
          go_wp2_with (first | (go_at_call 44; refine (cursor_some _ u _ hl' Hc.out).mono ?_; rintro e w' ⟨rfl, rfl⟩) | (go_at_call 31; refine (format_any _ _ hbd.1 hbd.2).mono ?_; rintro e w' ⟨rfl, hb⟩))
          go_ret2
          exact ⟨ret_prs Hp.out, hb⟩
        · have Hp : Hid (Num.prs s.data.toList = none) := Lib.hid (Num.prs_miss hcu (by rw [hv, ← ByteArray.toList_eq]; exact hf))
          clear hcu hre hbl hv
          go_enter Tryd.func34, Tryd.ntmps34
          go_wp2_with (first | (go_at_call 44; refine (cursor_some _ u _ hl' Hc.out).mono ?_; rintro e w' ⟨rfl, rfl⟩) | (go_at_call 31; refine (format_any _ _ hbd.1 hbd.2).mono ?_; rintro e w' ⟨rfl, hb⟩))
          go_ret2
          exact ⟨ret_prs Hp.out, hb⟩
  · have hbl := Num.below_nil s h1
    have hcu : Num.cur s.data.toList = none := Num.cur_none_short (by rw [Array.length_toList]; show s.size < 1; omega)
    have Hp := Lib.hid (Num.prs_none (l := s.data.toList) (by rw [Num.rest_all s hbl]; exact hcu))
    have Hc := Lib.hid hcu
    clear hcu hbl
    go_enter Tryd.func34, Tryd.ntmps34
    go_wp2_with (go_at_call 44; refine (cursor_none _ _ hl' Hc.out).mono ?_; rintro e w' ⟨rfl, rfl⟩)
    go_ret2
    exact ⟨ret_prs Hp.out, Below.refl _ _⟩

theorem parse_some (s : ByteArray) (n : Int) (w : World) (hl : s.size ≤ maxLen) (h : Num.prs s.data.toList = some n) :
    Calls Tryd.prog 34 #[.string s] w fun e w' => e = .returned (.tuple #[.int .i64 n, .bool true]) ∧ Below w.heap.size w w' :=
  (parse_any s w hl).mono fun e w' ⟨he, hw⟩ => ⟨by rw [he, h]; rfl, hw⟩
theorem parse_none (s : ByteArray) (w : World) (hl : s.size ≤ maxLen) (h : Num.prs s.data.toList = none) :
    Calls Tryd.prog 34 #[.string s] w fun e w' => e = .returned (.tuple #[.int .i64 0, .bool false]) ∧ Below w.heap.size w w' :=
  (parse_any s w hl).mono fun e w' ⟨he, hw⟩ => ⟨by rw [he, h]; rfl, hw⟩
end Go.Proofs.YtjdnpgdedbegfaaDoor
