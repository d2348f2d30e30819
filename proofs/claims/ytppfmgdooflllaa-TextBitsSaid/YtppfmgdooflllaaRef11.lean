/- The walks of the reference of chapter 11. -/
import Derived.Test.YtppfmgdooflllaaText2
import Derived.Test.YtppfmgdooflllaaRef2
namespace Go.Proofs.Ytppfmgdooflllaa
open Go.RowKit
set_option linter.unusedVariables false

set_option maxHeartbeats 2000000 in
theorem ref_span (a b : Int) (n : Nat) (w : World) (ha : -9223372036854775808 ≤ a ∧ a ≤ 9223372036854775807) (hb : -9223372036854775808 ≤ b ∧ b ≤ 9223372036854775807) (hn : n ≤ maxLen) :
    Calls Try.prog 51 #[.int .i64 n, .int .i64 a, .int .i64 b] w fun e w' => e = .returned (.tuple #[.int .i64 (Tx.lo a b n), .int .i64 (Tx.hi a b n)]) ∧ w = w' := by
  unfold maxLen at hn
  rcases (show (a < 0 ∧ a + n < 0) ∨ (a < 0 ∧ 0 ≤ a + n) ∨ 0 ≤ a from by omega) with ⟨h1, h3⟩ | ⟨h1, h3⟩ | h1
  all_goals
    rcases (show (b < 0 ∧ b + n ≤ n - 1) ∨ (0 ≤ b ∧ b ≤ n - 1) ∨ (0 ≤ b ∧ (n : Int) - 1 < b) from by omega) with ⟨h2, h4⟩ | ⟨h2, h4⟩ | ⟨h2, h4⟩
    all_goals
      go_enter Try.func51, Try.ntmps51
      go_wp2
      all_goals
        go_ret2
        refine ⟨ret_two ?_ ?_, rfl⟩
        · unfold Tx.lo Tx.s1 Tx.s2; (repeat' split) <;> omega
        · unfold Tx.hi Tx.s1 Tx.s2; (repeat' split) <;> omega

set_option maxHeartbeats 1000000 in
theorem ref_range (s : ByteArray) (a b : Int) (w : World) (ha : -9223372036854775808 ≤ a ∧ a ≤ 9223372036854775807) (hb : -9223372036854775808 ≤ b ∧ b ≤ 9223372036854775807) (hs : s.size ≤ maxLen) :
    Calls Try.prog 45 #[.string s, .int .i64 a, .int .i64 b] w fun e w' => e = .returned (sv (Tx.range s.data.toList a b)) ∧ w = w' := by
  have hs' := hs
  unfold maxLen at hs
  have hbd := Tx.span_bd a b s.size
  obtain ⟨x, hx⟩ : ∃ x : Nat, Tx.lo a b s.size = (x : Int) := ⟨(Tx.lo a b s.size).toNat, by omega⟩
  obtain ⟨y, hy⟩ : ∃ y : Nat, Tx.hi a b s.size = (y : Int) := ⟨(Tx.hi a b s.size).toNat, by omega⟩
  have hxy : x ≤ y := by omega
  have hys : y ≤ s.size := by omega
  have he : s.extract x y = bs (Tx.range s.data.toList a b) := by
    rw [bs_extract]; unfold Tx.range; rw [bs_len, hx, hy]; rfl
  have He := Lib.hid he
  have Hx := Lib.hid hx
  have Hy := Lib.hid hy
  clear he hx hy hbd
  go_enter Try.func45, Try.ntmps45
  go_wp2_with fail
  refine (ref_span a b s.size _ ha hb hs').mono ?_
  rintro e w1 ⟨rfl, rfl⟩
  rw [Hx.out, Hy.out]
  go_wp2_with fail
  go_ret
  exact ⟨str_ret He.out, rfl⟩
set_option maxHeartbeats 1000000 in
theorem ref_long (s : ByteArray) (n : Nat) (w : World) (hs : s.size ≤ 1048576) (h0 : 1 ≤ n) (hn : n ≤ 1048576) :
    Calls Try.prog 52 #[.string s, .int .i64 n] w fun e w' => ∃ g cap, e = .returned (.slice (some ⟨g, 0, none⟩) (Tx.grown s.data.toList n).length cap) ∧ OB w' w.heap.size 5 (.slice (some ⟨g, 0, none⟩) (Tx.grown s.data.toList n).length cap) (Tx.grown s.data.toList n) ∧ Below w.heap.size w w' := by
  obtain ⟨i0, hi, hz0, hz1, hz2⟩ := info_parts u8info
  have hcv := run_bytes_of_string (P := Try.prog) w 9 60 5 s Try.underlying9 Try.underlying60 Try.underlying5
  have hob0 := OB.of_convert (w := w) s 5 w.heap.size (Nat.le_refl _) (by unfold maxLen; omega)
  have Hob0 := Lib.hid hob0
  have hb0 : Below w.heap.size w (w.drew.alloc (.cells (bytesRow s (grownCap w s.size 0 5)) 5 ((bytesRow s (grownCap w s.size 0 5)).size, (bytesRow s (grownCap w s.size 0 5)).size + 1))) := ((Below.refl _ _).drew).alloc (Nat.le_refl _) _
  have Hb0 := Lib.hid hb0
  have hlen := bs_len s
  have Hlen := Lib.hid hlen
  clear hob0 hb0 hlen
  go_enter Try.func52, Try.ntmps52
  go_wp2
  go_loopw [5] (fun v wr => ∃ l : List UInt8, OB wr w.heap.size 5 v l ∧ Hid (Tx.grown l n = Tx.grown s.data.toList n) ∧ l.length ≤ 1048576 ∧ Below w.heap.size w wr)
    (fun v _ => n - sliceLen v)
  case atStart => exact ⟨s.data.toList, Hob0.out, Lib.hid rfl, by rw [Hlen.out]; exact hs, Hb0.out⟩
  case round =>
    clear hcv Hob0 Hb0
    obtain ⟨l, hob, hg, hl, hbel⟩ := hrel
    obtain ⟨A, c, rfl⟩ := hob.sliceForm
    have hbs := hbel.size
    by_cases hlt : l.length < n
    · go_wp2_with (first
        | (at_builtin
           refine wpList_append_Own _ rfl (.tmp 12) (.tmp 13) _ _ rfl w.heap.size 5 i0 _ 1 1 Try.underlying60 hi hz0 hz1 hz2 rfl (.slice A l.length c) l.length (bv l) rfl (hob.alloc _) _ 1 [.int .u8 0] rfl (Src.own (Own.lit (base := w.heap.size) wr #[.int .u8 0] 1 hbs (by decide) rfl) Try.underlying60 (by intro v hv; simp at hv; subst hv; rfl) (by decide)) (by unfold maxLen; omega) (by omega) (by simp; omega) ?_
           intro v1 w1 hO hgr hat
           have hOB : OB w1 w.heap.size 5 v1 (l ++ [0]) := OB.mk hO (by simp [bv])))
      obtain ⟨A1, c1, rfl⟩ := hOB.sliceForm
      refine ⟨⟨l ++ [0], hOB, Lib.hid (Tx.grown_step hg.out hlt), by simp; omega, (hbel.alloc hbs _).grown hgr (by simp; omega) (fun k hk => (hob.lt k hk).1)⟩, ?_⟩
      simp [sliceLen]
      omega
    · have hfin := Tx.grown_done hg.out (by omega)
      rcases hob.form with ⟨_, h00⟩ | ⟨g, cap, hv, _⟩
      · omega
      · have hA : A = some ⟨g, 0, none⟩ := by injection hv
        have Hfin := Lib.hid hfin
        subst hA
        clear hfin hg hv
        go_wp2
        go_ret
        rw [← Hfin.out]
        exact ⟨g, c, rfl, hob, hbel⟩

theorem i64_and1_all : ∀ x : Fin 256, bits .and .i64 (x.val : Int) 1 = ((x.val % 2 : Nat) : Int) := by decide +kernel
theorem bit_eq2 (c k : Nat) (h : c < 256) : bits .and .i64 (wrap64 ((c : Int) / 2 ^ k)) 1 = (Tx.bitOf c k : Int) := by
  have e : ((c : Int) / 2 ^ k) = ((c / 2 ^ k : Nat) : Int) := by simp
  have h2 : c / 2 ^ k < 256 := Nat.lt_of_le_of_lt (Nat.div_le_self _ _) h
  rw [e]
  unfold Tx.bitOf
  generalize c / 2 ^ k = x at h2 ⊢
  rw [show wrap64 (x : Int) = (x : Int) from IntWalk.wrap64_in _ (by omega)]
  exact i64_and1_all ⟨x, h2⟩

set_option maxHeartbeats 1000000 in
theorem ref_bit (s : ByteArray) (i : Int) (w : World) (hs : s.size ≤ maxLen) (hi : -9223372036854775808 ≤ i ∧ i ≤ 9223372036854775807) :
    Calls Try.prog 49 #[.string s, .int .i64 i] w fun e w' => e = .returned (.int .i64 (Tx.bit s.data.toList i)) ∧ w = w' := by
  unfold maxLen at hs
  have hlen := bs_len s
  by_cases h1 : i < 0
  · have H : Hid (Tx.bit s.data.toList i = 0) := Lib.hid (by unfold Tx.bit; rw [if_pos (.inl h1)])
    clear hlen
    go_enter Try.func49, Try.ntmps49
    go_wp2
    go_ret
    exact ⟨ret_int (by rw [H.out]; rfl), rfl⟩
  by_cases h2 : (s.size : Int) ≤ i / 8
  · have H : Hid (Tx.bit s.data.toList i = 0) := Lib.hid (by unfold Tx.bit; rw [if_pos (.inr (by rw [hlen]; exact h2))])
    clear hlen
    go_enter Try.func49, Try.ntmps49
    go_wp2
    go_ret
    exact ⟨ret_int (by rw [H.out]; rfl), rfl⟩
  · obtain ⟨q, hq⟩ : ∃ q : Nat, i / 8 = (q : Int) := ⟨(i / 8).toNat, by omega⟩
    obtain ⟨r, hr⟩ : ∃ r : Nat, i % 8 = (r : Int) := ⟨(i % 8).toNat, by omega⟩
    have hr8 : r < 8 := by omega
    have hqs : q < s.size := by omega
    have H : Hid (Tx.bit s.data.toList i = Tx.bitOf s[q].toNat (7 - r)) := Lib.hid (by
      unfold Tx.bit
      rw [if_neg (by omega), hq, hr, Int.toNat_natCast, List.getElem?_eq_getElem (by rw [hlen]; exact hqs)]
      congr 1
      omega)
    clear hlen h2
    have h1' : 0 ≤ i := by omega
    go_enter Try.func49, Try.ntmps49
    go_wp2
    go_ret
    refine ⟨ret_int ?_, rfl⟩
    rw [H.out]
    have h256 := UInt8.toNat_lt s[q]
    generalize s[q].toNat = c at h256 ⊢
    exact bit_eq2 c _ h256


theorem ref_parse_some (s : ByteArray) (n : Int) (w : World) (hl : s.size ≤ maxLen) (h : Num.prs s.data.toList = some n) :
    Calls Try.prog 39 #[.string s] w fun e w' => e = .returned (.tuple #[.int .i64 n, .bool true]) ∧ w = w' :=
  (ref_parse s w hl).mono fun e w' ⟨he, hw⟩ => ⟨by rw [he, h]; rfl, hw⟩
theorem ref_parse_none (s : ByteArray) (w : World) (hl : s.size ≤ maxLen) (h : Num.prs s.data.toList = none) :
    Calls Try.prog 39 #[.string s] w fun e w' => e = .returned (.tuple #[.int .i64 0, .bool false]) ∧ w = w' :=
  (ref_parse s w hl).mono fun e w' ⟨he, hw⟩ => ⟨by rw [he, h]; rfl, hw⟩
theorem ref_addS (w : World) (a b n : Int) (ha : -9223372036854775808 ≤ a ∧ a ≤ 9223372036854775807) (hb : -9223372036854775808 ≤ b ∧ b ≤ 9223372036854775807) (h : Num.add a b = some n) :
    Calls Try.prog 41 #[.int .i64 a, .int .i64 b] w fun e w' => e = .returned (.tuple #[.int .i64 n, .bool true]) ∧ w = w' :=
  (ref_add a b w ha.1 ha.2 hb.1 hb.2).mono fun e w' ⟨he, hw⟩ => ⟨by rw [he, h]; rfl, hw⟩
theorem ref_addN (w : World) (a b : Int) (ha : -9223372036854775808 ≤ a ∧ a ≤ 9223372036854775807) (hb : -9223372036854775808 ≤ b ∧ b ≤ 9223372036854775807) (h : Num.add a b = none) :
    Calls Try.prog 41 #[.int .i64 a, .int .i64 b] w fun e w' => e = .returned (.tuple #[.int .i64 0, .bool false]) ∧ w = w' :=
  (ref_add a b w ha.1 ha.2 hb.1 hb.2).mono fun e w' ⟨he, hw⟩ => ⟨by rw [he, h]; rfl, hw⟩

set_option maxHeartbeats 2000000 in
theorem ref_incr (s : ByteArray) (d : Int) (w : World) (hs : s.size ≤ maxLen) (hd : -9223372036854775808 ≤ d ∧ d ≤ 9223372036854775807) :
    Calls Try.prog 50 #[.string s, .int .i64 d] w fun e w' => e = .returned (.tuple #[sv (Tx.incr s.data.toList d).1, .int .i64 (Tx.incr s.data.toList d).2.1, .int .i64 (Tx.incr s.data.toList d).2.2]) ∧ w = w' := by
  rcases hp : Num.prs s.data.toList with _ | n
  · by_cases he : s.data.toList = []
    · have hse : s.toList = [] := by rw [ByteArray.toList_eq]; exact he
      have hse2 : s.toList.isEmpty = true := by rw [hse]; rfl
      rcases ha : Num.add 0 d with _ | m
      · have H : Hid (Tx.incr s.data.toList d = ([], 0, 6)) := Lib.hid (by unfold Tx.incr; rw [if_neg (by simp [he]), hp]; simp only [Option.getD_none]; rw [ha])
        have Hp := Lib.hid hp
        have Ha := Lib.hid ha
        clear hp ha he
        go_enter Try.func50, Try.ntmps50
        go_wp2_with fail
        refine (ref_parse_none s _ hs Hp.out).mono ?_
        rintro e w1 ⟨rfl, rfl⟩
        go_wp2_with fail
        refine (ref_addN _ 0 d (by omega) hd Ha.out).mono ?_
        rintro e w2 ⟨rfl, rfl⟩
        go_wp2_with fail
        go_ret3
        exact ⟨ret_three (by rw [H.out]; rfl) (by rw [H.out]) (by rw [H.out]), rfl⟩
      · have H : Hid (Tx.incr s.data.toList d = (Num.fmt m, m, 0)) := Lib.hid (by unfold Tx.incr; rw [if_neg (by simp [he]), hp]; simp only [Option.getD_none]; rw [ha])
        have hmb := add_bd ha
        have Hp := Lib.hid hp
        have Ha := Lib.hid ha
        clear hp ha he
        go_enter Try.func50, Try.ntmps50
        go_wp2_with fail
        refine (ref_parse_none s _ hs Hp.out).mono ?_
        rintro e w1 ⟨rfl, rfl⟩
        go_wp2_with fail
        refine (ref_addS _ 0 d m (by omega) hd Ha.out).mono ?_
        rintro e w2 ⟨rfl, rfl⟩
        go_wp2_with fail
        refine (ref_format m _ hmb.1 hmb.2).mono ?_
        rintro e w3 ⟨rfl, rfl⟩
        go_wp2_with fail
        go_ret3
        exact ⟨ret_three (by rw [H.out]) (by rw [H.out]) (by rw [H.out]), rfl⟩
    · have hse : s.toList.isEmpty = false := by rw [ByteArray.toList_eq]; simpa using he
      have hse2 : (s.toList == []) = false := by rw [ByteArray.toList_eq]; simpa using he
      have H : Hid (Tx.incr s.data.toList d = ([], 0, 5)) := Lib.hid (by unfold Tx.incr; rw [if_pos ⟨by rw [hp]; rfl, he⟩])
      have Hp := Lib.hid hp
      clear hp he
      go_enter Try.func50, Try.ntmps50
      go_wp2_with fail
      refine (ref_parse_none s _ hs Hp.out).mono ?_
      rintro e w1 ⟨rfl, rfl⟩
      go_wp2_with fail
      go_ret3
      exact ⟨ret_three (by rw [H.out]; rfl) (by rw [H.out]) (by rw [H.out]), rfl⟩
  · have hnb := Num.prs_bd hp
    rcases ha : Num.add n d with _ | m
    · have H : Hid (Tx.incr s.data.toList d = ([], 0, 6)) := Lib.hid (by unfold Tx.incr; rw [if_neg (by simp [hp]), hp]; simp only [Option.getD_some]; rw [ha])
      have Hp := Lib.hid hp
      have Ha := Lib.hid ha
      clear hp ha
      go_enter Try.func50, Try.ntmps50
      go_wp2_with fail
      refine (ref_parse_some s n _ hs Hp.out).mono ?_
      rintro e w1 ⟨rfl, rfl⟩
      go_wp2_with fail
      refine (ref_addN _ n d hnb hd Ha.out).mono ?_
      rintro e w2 ⟨rfl, rfl⟩
      go_wp2_with fail
      go_ret3
      exact ⟨ret_three (by rw [H.out]; rfl) (by rw [H.out]) (by rw [H.out]), rfl⟩
    · have H : Hid (Tx.incr s.data.toList d = (Num.fmt m, m, 0)) := Lib.hid (by unfold Tx.incr; rw [if_neg (by simp [hp]), hp]; simp only [Option.getD_some]; rw [ha])
      have hmb := add_bd ha
      have Hp := Lib.hid hp
      have Ha := Lib.hid ha
      clear hp ha
      go_enter Try.func50, Try.ntmps50
      go_wp2_with fail
      refine (ref_parse_some s n _ hs Hp.out).mono ?_
      rintro e w1 ⟨rfl, rfl⟩
      go_wp2_with fail
      refine (ref_addS _ n d m hnb hd Ha.out).mono ?_
      rintro e w2 ⟨rfl, rfl⟩
      go_wp2_with fail
      refine (ref_format m _ hmb.1 hmb.2).mono ?_
      rintro e w3 ⟨rfl, rfl⟩
      go_wp2_with fail
      go_ret3
      exact ⟨ret_three (by rw [H.out]) (by rw [H.out]) (by rw [H.out]), rfl⟩

/-! ### The bits of a byte, one by one -/
theorem popN_step_all : ∀ x : Fin 256, Tx.popN 8 x.val = x.val % 2 + Tx.popN 8 (x.val / 2) := by decide +kernel

set_option maxHeartbeats 2000000 in
theorem ref_count (s : ByteArray) (a b : Int) (w : World) (ha : -9223372036854775808 ≤ a ∧ a ≤ 9223372036854775807) (hb : -9223372036854775808 ≤ b ∧ b ≤ 9223372036854775807) (hs : s.size ≤ 1048576) :
    Calls Try.prog 46 #[.string s, .int .i64 a, .int .i64 b] w fun e w' => e = .returned (.int .i64 (Tx.count s.data.toList a b)) ∧ w = w' := by
  have hrl := Tx.range_length s.data.toList a b
  rw [bs_len] at hrl
  obtain ⟨l, hl⟩ : ∃ l, l = Tx.range s.data.toList a b := ⟨_, rfl⟩
  have hcount : Hid (Tx.count s.data.toList a b = Tx.pops l) := Lib.hid (by rw [hl]; rfl)
  have hm := (ref_range s a b w ha hb (by unfold maxLen; omega))
  rw [← hl] at hrl hm
  have Hm := Lib.hid hm
  clear hl hm
  go_enter Try.func46, Try.ntmps46
  go_wp2_with fail
  refine Hm.out.mono ?_
  rintro e w1 ⟨rfl, rfl⟩
  clear Hm
  go_wp2_with fail
  go_loop [8, 9] (fun x i => ∃ k : Nat, k ≤ l.length ∧ i = .int .i64 k ∧ x = .int .i64 (Tx.pops (l.take k) : Nat))
    (fun _ i => l.length - (intOf i).toNat)
  case atStart => exact ⟨0, Nat.zero_le _, rfl, rfl⟩
  case round =>
    obtain ⟨k, hk, rfl, rfl⟩ := hrel
    have hpl := Tx.pops_le (l.take k)
    rw [List.length_take, Nat.min_eq_left hk] at hpl
    by_cases hlt : k < l.length
    · have hp8 := Tx.pop_le l[k]
      have hst := Lib.hid (Tx.pops_take l k hlt)
      have h256 := UInt8.toNat_lt l[k]
      obtain ⟨p, hp⟩ : ∃ p, p = Tx.pops (l.take (k + 1)) := ⟨_, rfl⟩
      have hpp : Hid (Tx.pops (l.take k) + Tx.popN 8 l[k].toNat = p) := Lib.hid (by rw [hp, hst.out]; rfl)
      have hpb : p ≤ 9000000 := by rw [hp, hst.out]; omega
      have Hp := Lib.hid hp
      clear hp
      go_wp2_with fail
      go_loop [8, 10] (fun x c => ∃ y m : Nat, y < 256 ∧ c = .int .u8 y ∧ x = .int .i64 m ∧ m + Tx.popN 8 y = p)
        (fun _ c => (intOf c).toNat)
      case atStart => exact ⟨l[k].toNat, Tx.pops (l.take k), h256, rfl, rfl, hpp.out⟩
      case round =>
        clear hpp
        obtain ⟨y, m, hy, rfl, rfl, hs2⟩ := hrel
        have Hs := Lib.hid hs2
        have hstep := Lib.hid (popN_step_all ⟨y, hy⟩)
        have hmb : m ≤ 9000000 := by omega
        clear hs2
        by_cases hy0 : 0 < y
        · go_wp2_with fail
          refine ⟨⟨y / 2, m + y % 2, by omega, by go_num, by go_num, ?_⟩, by simp [intOf]; omega⟩
          have h1 := hstep.out
          have h2 := Hs.out
          simp only at h1
          omega
        · have hy00 : y = 0 := by omega
          have hmp : m = p := by have := Hs.out; subst hy00; simpa [Tx.popN] using this
          have Hmp := Lib.hid hmp
          clear hmp hy00 hstep
          go_wp2_with fail
          refine ⟨⟨k + 1, by omega, by go_num, by rw [Hmp.out, Hp.out]⟩, by simp [intOf]; omega⟩
    · have hk2 : k = l.length := by omega
      have hfin : Hid (Tx.pops (l.take k) = Tx.count s.data.toList a b) := Lib.hid (by rw [hcount.out, hk2, List.take_length])
      clear hcount hk2
      go_wp2_with fail
      go_ret
      exact ⟨ret_int (by rw [← hfin.out]), rfl⟩

/-- One byte more is laid. -/
theorem lay_step (L t : List UInt8) (k i : Nat) (hi : i < t.length) (hf : k + t.length ≤ L.length) :
    (L.take k ++ t.take i ++ L.drop (k + i)).set (k + i) t[i] = L.take k ++ t.take (i + 1) ++ L.drop (k + (i + 1)) := by
  have h1 : (L.take k ++ t.take i).length = k + i := by simp; omega
  rw [List.set_append_right _ _ (by omega), h1, Nat.sub_self]
  rw [List.drop_eq_getElem_cons (show k + i < L.length by omega)]
  rw [List.set_cons_zero, List.take_succ_eq_append_getElem hi]
  simp only [Nat.add_assoc, List.append_assoc, List.cons_append, List.nil_append]
theorem lay_length (L t : List UInt8) (k i : Nat) (hi : i ≤ t.length) (hf : k + t.length ≤ L.length) : (L.take k ++ t.take i ++ L.drop (k + i)).length = L.length := by
  simp; omega

set_option maxHeartbeats 2000000 in
theorem ref_setRange (s : ByteArray) (i : Int) (t : ByteArray) (w : World) (hs : s.size ≤ 1048576) (hi : -9223372036854775808 ≤ i ∧ i ≤ 9223372036854775807) (ht : t.size ≤ 1048576) :
    Calls Try.prog 47 #[.string s, .int .i64 i, .string t] w fun e w' => e = .returned (.tuple #[sv (Tx.setRange s.data.toList i t.data.toList).1, .int .i64 (Tx.setRange s.data.toList i t.data.toList).2]) ∧ Below w.heap.size w w' := by
  have hlt := bs_len t
  by_cases h1 : i < 0
  · have H : Hid (Tx.setRange s.data.toList i t.data.toList = ([], 25)) := Lib.hid (by unfold Tx.setRange; rw [if_pos h1])
    clear hlt
    go_enter Try.func47, Try.ntmps47
    go_wp2
    go_ret2
    exact ⟨ret_str_code (by rw [H.out]; rfl) (by rw [H.out]), Below.refl _ _⟩
  by_cases h2 : t.size = 0
  · have H : Hid (Tx.setRange s.data.toList i t.data.toList = (s.data.toList, 0)) := Lib.hid (by unfold Tx.setRange; rw [if_neg h1, if_pos (by rw [hlt]; exact h2)])
    have h2' : ((t.size : Int) == 0) = true := by rw [h2]; rfl
    have h1' : 0 ≤ i := by omega
    clear hlt h2
    go_enter Try.func47, Try.ntmps47
    go_wp2
    go_ret2
    exact ⟨ret_str_code (by rw [H.out, bs_eta]) (by rw [H.out]), Below.refl _ _⟩
  have h2' : ((t.size : Int) == 0) = false := by rw [beq_eq_false_iff_ne]; omega
  have h1' : 0 ≤ i := by omega
  by_cases h3 : 65536 < i + t.size
  · have H : Hid (Tx.setRange s.data.toList i t.data.toList = ([], 11)) := Lib.hid (by unfold Tx.setRange; rw [if_neg h1, if_neg (by rw [hlt]; exact h2), hlt, if_pos h3])
    clear hlt h2
    go_enter Try.func47, Try.ntmps47
    go_wp2
    all_goals
      go_ret2
      exact ⟨ret_str_code (by rw [H.out]; rfl) (by rw [H.out]), Below.refl _ _⟩
  · obtain ⟨k, rfl⟩ := Int.eq_ofNat_of_zero_le h1'
    have H : Hid (Tx.setRange s.data.toList k t.data.toList = (Tx.laid s.data.toList k t.data.toList, 0)) := Lib.hid (by unfold Tx.setRange; rw [if_neg h1, if_neg (by rw [hlt]; exact h2), hlt, if_neg h3]; rfl)
    have hgl := Tx.grown_length s.data.toList (k + t.size)
    have hkL : k + t.size ≤ (Tx.grown s.data.toList (k + t.size)).length := by omega
    have hLb : (Tx.grown s.data.toList (k + t.size)).length ≤ 3000000 := by have := bs_len s; omega
    have hl : Hid (Tx.laid s.data.toList k t.data.toList = (Tx.grown s.data.toList (k + t.size)).take k ++ t.data.toList ++ (Tx.grown s.data.toList (k + t.size)).drop (k + t.size)) := Lib.hid (by unfold Tx.laid; rw [hlt])
    have ht0 : 0 < t.size := by omega
    have Hm := Lib.hid (ref_long s (k + t.size) w hs (by omega) (by omega))
    have Hlt := Lib.hid hlt
    clear hlt h2 hgl
    go_enter Try.func47, Try.ntmps47
    go_wp2_with fail
    rw [show ((k : Int) + (t.size : Int)) = ((k + t.size : Nat) : Int) from by omega]
    refine Hm.out.mono ?_
    rintro e w1 ⟨g, cap, rfl, hob, hb⟩
    obtain ⟨L, hL⟩ : ∃ L, L = Tx.grown s.data.toList (k + t.size) := ⟨_, rfl⟩
    rw [← hL] at hob hkL hl hLb ⊢
    clear Hm hL
    go_wp2_with fail
    go_loopw [9] (fun x wr => ∃ j : Nat, j ≤ t.size ∧ x = .int .i64 j ∧ OB wr w.heap.size 5 (.slice (some ⟨g, 0, none⟩) L.length cap) (L.take k ++ t.data.toList.take j ++ L.drop (k + j)) ∧ Below w.heap.size w wr)
      (fun x _ => t.size - (intOf x).toNat)
    case atStart => exact ⟨0, Nat.zero_le _, rfl, by simpa using hob, hb⟩
    case round =>
      obtain ⟨j, hj, rfl, hob2, hb2⟩ := hrel
      have hll := lay_length L t.data.toList k j (by rw [Hlt.out]; exact hj) (by rw [Hlt.out]; exact hkL)
      have hg := (hob.lt g rfl).1
      clear hob hb
      unfold OB at hob2
      rw [hll] at hob2
      by_cases hjt : j < t.size
      · have hcl : k + j < (L.take k ++ t.data.toList.take j ++ L.drop (k + j)).length := by rw [hll]; omega
        have hc := hob2.cellAt (k + j) (by omega)
        rw [bv_get _ _ hcl] at hc
        have hf := hob2.frozenAt (k + j) (by omega)
        have hst := Own.stored hob2 (k + j) (.int .u8 (t[j].toNat : Int))
        have hgi : t.data.toList[j]'(by rw [Hlt.out]; exact hjt) = t[j] := rfl
        have Hst : Hid (OB (w := wr.setCell ⟨g, k + j, none⟩ (.int .u8 (t[j].toNat : Int))) w.heap.size 5 (.slice (some ⟨g, 0, none⟩) L.length cap) (L.take k ++ t.data.toList.take (j + 1) ++ L.drop (k + (j + 1)))) := Lib.hid (OB.mk hst (by
          rw [← lay_step L t.data.toList k j (by rw [Hlt.out]; exact hjt) (by rw [Hlt.out]; exact hkL), hgi]
          simp only [bv, List.map_set]))
        clear hst hgi hll hob2
        go_wp2_with fail
        go_roundw
        case rel => exact ⟨j + 1, by omega, by go_num, Hst.out, hb2.setCell hg _⟩
        case measure => simp [intOf]; omega
      · have hj2 : j = t.size := by omega
        have hob3 : OB wr w.heap.size 5 (.slice (some ⟨g, 0, none⟩) L.length cap) (L.take k ++ t.data.toList ++ L.drop (k + t.size)) := OB.mk hob2 (by
          rw [hj2, List.take_of_length_le (l := t.data.toList) (by rw [Hlt.out]; exact Nat.le_refl _)])
        have hcv := hob3.string (P := Try.prog) Try.underlying60 Try.underlying5 Try.underlying9
        clear hob2 hll hj2
        go_wp2_with fail
        go_ret2
        exact ⟨ret_str_code (by rw [H.out]; simp only; rw [hl.out, List.append_assoc]) (by rw [H.out]), hb2⟩

theorem put0_all : ∀ c : Fin 256, ∀ d : Fin 8, bits .andNot .u8 (c.val : Int) (2 ^ d.val % 256) = ((Tx.put c.val d.val 0 : Nat) : Int) := by decide +kernel
theorem put1_all : ∀ c : Fin 256, ∀ d : Fin 8, bits .or .u8 ((Tx.put c.val d.val 0 : Nat) : Int) (2 ^ d.val % 256) = ((Tx.put c.val d.val 1 : Nat) : Int) := by decide +kernel

set_option maxHeartbeats 4000000 in
theorem ref_setBit (s : ByteArray) (i b : Int) (w : World) (hs : s.size ≤ 1048576) (hi : -9223372036854775808 ≤ i ∧ i ≤ 9223372036854775807) (hb : -9223372036854775808 ≤ b ∧ b ≤ 9223372036854775807) :
    Calls Try.prog 48 #[.string s, .int .i64 i, .int .i64 b] w fun e w' => e = .returned (.tuple #[sv (Tx.setBit s.data.toList i b).1, .int .i64 (Tx.setBit s.data.toList i b).2.1, .int .i64 (Tx.setBit s.data.toList i b).2.2]) ∧ Below w.heap.size w w' := by
  by_cases hbad : i < 0 ∨ 524288 ≤ i ∨ b < 0 ∨ 1 < b
  · have H : Hid (Tx.setBit s.data.toList i b = ([], 0, 10)) := Lib.hid (by unfold Tx.setBit; rw [if_pos hbad])
    go_enter Try.func48, Try.ntmps48
    go_wp2
    all_goals first
      | (exfalso; omega)
      | (go_ret3; exact ⟨ret_three (by rw [H.out]; rfl) (by rw [H.out]) (by rw [H.out]), Below.refl _ _⟩)
  · obtain ⟨q, hq⟩ : ∃ q : Nat, i / 8 = (q : Int) := ⟨(i / 8).toNat, by omega⟩
    obtain ⟨r, hr⟩ : ∃ r : Nat, i % 8 = (r : Int) := ⟨(i % 8).toNat, by omega⟩
    have hr8 : r < 8 := by omega
    have hq6 : q < 65536 := by omega
    have hi0 : 0 ≤ i := by omega
    have hi1 : i < 524288 := by omega
    have hgl := Tx.grown_length s.data.toList (q + 1)
    obtain ⟨L, hL⟩ : ∃ L, L = Tx.grown s.data.toList (q + 1) := ⟨_, rfl⟩
    have hqL : q < L.length := by rw [hL]; omega
    have H0 : ∀ bn : Nat, bn ≤ 1 → b = bn → Tx.setBit s.data.toList i b = (L.set q (UInt8.ofNat (Tx.put L[q].toNat (7 - r) bn)), ((Tx.bit s.data.toList i : Nat) : Int), 0) := by
      intro bn hbn he
      subst he
      unfold Tx.setBit
      rw [if_neg hbad, hq, hr, show ((q : Int) + 1).toNat = q + 1 from by omega, ← hL, Int.toNat_natCast, Int.toNat_natCast, List.getElem?_eq_getElem hqL, show (7 - (r : Int)).toNat = 7 - r from by omega]
      rfl
    have hm := ref_long s (q + 1) w hs (by omega) (by omega)
    rw [← hL] at hm
    have Hm := Lib.hid hm
    have hbt := ref_bit s i w (by unfold maxLen; omega) hi
    have Hbt := Lib.hid hbt
    have HH0 := Lib.hid H0
    obtain ⟨d, hd⟩ : ∃ d : Nat, 7 - (r : Int) = (d : Int) := ⟨7 - r, by omega⟩
    have hd8 : d < 8 := by omega
    have hdr : 7 - r = d := by omega
    have hq0 : (0 : Int) ≤ (q : Int) := by omega
    have hq1 : (q : Int) < (L.length : Int) := by omega
    have hd0 : (0 : Int) ≤ (d : Int) := by omega
    have Hdr := Lib.hid hdr
    obtain ⟨c, hcc⟩ : ∃ c : Nat, c = L[q].toNat := ⟨_, rfl⟩
    have hc256 : c < 256 := by rw [hcc]; exact UInt8.toNat_lt _
    have Hcc := Lib.hid hcc
    have hp0 := put0_all ⟨c, hc256⟩ ⟨d, hd8⟩
    have hp1 := put1_all ⟨c, hc256⟩ ⟨d, hd8⟩
    simp only at hp0 hp1
    have hpl0 := put_lt c d 0 hc256 hd8 (by omega)
    have hpl1 := put_lt c d 1 hc256 hd8 (by omega)
    rcases (show b = 0 ∨ b = 1 from by omega) with rfl | rfl
    · have H : Hid (Tx.setBit s.data.toList i 0 = (L.set q (UInt8.ofNat (Tx.put c d 0)), ((Tx.bit s.data.toList i : Nat) : Int), 0)) := Lib.hid (by rw [HH0.out 0 (by omega) rfl, hdr, hcc])
      clear hbad hgl hL hm hbt H0 HH0 hdr hcc
      go_enter Try.func48, Try.ntmps48
      go_wp2_with fail
      refine Hbt.out.mono ?_
      rintro e w1 ⟨rfl, rfl⟩
      go_wp2_with fail
      rw [show ((q : Int) + 1) = ((q + 1 : Nat) : Int) from by omega]
      refine Hm.out.mono ?_
      rintro e w1 ⟨g, cap, rfl, hob, hbel⟩
      have hc := hob.cellAt q (by omega)
      rw [bv_get L q hqL, ← Hcc.out] at hc
      have hf := hob.frozenAt q (by omega)
      have hst := Own.stored hob q (.int .u8 ((Tx.put c d 0 : Nat) : Int))
      have hob2 : OB (w1.setCell ⟨g, q, none⟩ (.int .u8 ((Tx.put c d 0 : Nat) : Int))) w.heap.size 5 (.slice (some ⟨g, 0, none⟩) L.length cap) (L.set q (UInt8.ofNat (Tx.put c d 0))) := OB.mk hst (by
        rw [bv, bv, List.map_set, UInt8.toNat_ofNat', Nat.mod_eq_of_lt hpl0])
      have hcv := hob2.string (P := Try.prog) Try.underlying60 Try.underlying5 Try.underlying9
      clear Hm Hbt hst
      go_wp2_with fail
      go_ret3
      exact ⟨ret_three (by rw [H.out]) (by rw [H.out]) (by rw [H.out]), (hbel.setCell (hob.lt g rfl).1 _)⟩
    · have H : Hid (Tx.setBit s.data.toList i 1 = (L.set q (UInt8.ofNat (Tx.put c d 1)), ((Tx.bit s.data.toList i : Nat) : Int), 0)) := Lib.hid (by rw [HH0.out 1 (by omega) rfl, hdr, hcc])
      clear hbad hgl hL hm hbt H0 HH0 hdr hcc
      go_enter Try.func48, Try.ntmps48
      go_wp2_with fail
      refine Hbt.out.mono ?_
      rintro e w1 ⟨rfl, rfl⟩
      go_wp2_with fail
      rw [show ((q : Int) + 1) = ((q + 1 : Nat) : Int) from by omega]
      refine Hm.out.mono ?_
      rintro e w1 ⟨g, cap, rfl, hob, hbel⟩
      have hc := hob.cellAt q (by omega)
      rw [bv_get L q hqL, ← Hcc.out] at hc
      have hf := hob.frozenAt q (by omega)
      have hst := Own.stored (Own.stored hob q (.int .u8 ((Tx.put c d 0 : Nat) : Int))) q (.int .u8 ((Tx.put c d 1 : Nat) : Int))
      have hob2 : OB ((w1.setCell ⟨g, q, none⟩ (.int .u8 ((Tx.put c d 0 : Nat) : Int))).setCell ⟨g, q, none⟩ (.int .u8 ((Tx.put c d 1 : Nat) : Int))) w.heap.size 5 (.slice (some ⟨g, 0, none⟩) L.length cap) (L.set q (UInt8.ofNat (Tx.put c d 1))) := OB.mk hst (by
        rw [List.set_set, bv, bv, List.map_set, UInt8.toNat_ofNat', Nat.mod_eq_of_lt hpl1])
      have hcv := hob2.string (P := Try.prog) Try.underlying60 Try.underlying5 Try.underlying9
      clear Hm Hbt hst
      go_wp2_with fail
      go_ret3
      exact ⟨ret_three (by rw [H.out]) (by rw [H.out]) (by rw [H.out]), ((hbel.setCell (hob.lt g rfl).1 _).setCell (hob.lt g rfl).1 _)⟩
end Go.Proofs.Ytppfmgdooflllaa
