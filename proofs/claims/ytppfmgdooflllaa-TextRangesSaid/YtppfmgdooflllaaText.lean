/- The walks of the package text. -/
import Derived.Test.YtppfmgdooflllaaNum
import Derived.Test.YtppfmgdooflllaaTextP
namespace Go.Proofs.Ytppfmgdooflllaa
open Go.RowKit
set_option linter.unusedVariables false

theorem ret_two {j k : IntKind} {a b c d : Int} (h : a = c) (h2 : b = d) : Ending.returned (.tuple #[.int j a, .int k b]) = .returned (.tuple #[.int j c, .int k d]) := by rw [h, h2]

set_option maxHeartbeats 1000000 in
theorem span_any (a b : Int) (n : Nat) (w : World) (ha : -9223372036854775808 ≤ a ∧ a ≤ 9223372036854775807) (hb : -9223372036854775808 ≤ b ∧ b ≤ 9223372036854775807) (hn : n ≤ maxLen) :
    Calls Try.prog 43 #[.int .i64 a, .int .i64 b, .int .i64 n] w fun e w' => e = .returned (.tuple #[.int .i64 (Tx.lo a b n), .int .i64 (Tx.hi a b n)]) ∧ w = w' := by
  unfold maxLen at hn
  rcases (show (a < 0 ∧ a + n < 0) ∨ (a < 0 ∧ 0 ≤ a + n) ∨ 0 ≤ a from by omega) with ⟨h1, h3⟩ | ⟨h1, h3⟩ | h1
  all_goals
    rcases (show b < 0 ∨ (0 ≤ b ∧ b ≤ n - 1) ∨ (0 ≤ b ∧ (n : Int) - 1 < b) from by omega) with h2 | ⟨h2, h4⟩ | ⟨h2, h4⟩
    all_goals
      go_enter Try.func43, Try.ntmps43
      go_wp2
      all_goals
        go_ret2
        refine ⟨ret_two ?_ ?_, rfl⟩
        · unfold Tx.lo Tx.s1 Tx.s2; (repeat' split) <;> omega
        · unfold Tx.hi Tx.s1 Tx.s2; (repeat' split) <;> omega

set_option maxHeartbeats 1000000 in
theorem range_any (s : ByteArray) (a b : Int) (w : World) (ha : -9223372036854775808 ≤ a ∧ a ≤ 9223372036854775807) (hb : -9223372036854775808 ≤ b ∧ b ≤ 9223372036854775807) (hs : s.size ≤ maxLen) :
    Calls Try.prog 30 #[.string s, .int .i64 a, .int .i64 b] w fun e w' => e = .returned (sv (Tx.range s.data.toList a b)) ∧ w = w' := by
  have hs' := hs
  unfold maxLen at hs
  have hbd := Tx.span_bd a b s.size
  obtain ⟨x, hx⟩ : ∃ x : Nat, Tx.lo a b s.size = (x : Int) := ⟨(Tx.lo a b s.size).toNat, by omega⟩
  obtain ⟨y, hy⟩ : ∃ y : Nat, Tx.hi a b s.size = (y : Int) := ⟨(Tx.hi a b s.size).toNat, by omega⟩
  have hxy : x ≤ y := by omega
  have hys : y ≤ s.size := by omega
  have he : s.extract x y = bs (Tx.range s.data.toList a b) := by
    rw [bs_extract]; unfold Tx.range; rw [bs_len, hx, hy]; rfl
  have He := Lib.hid he
  have Hx := Lib.hid hx
  have Hy := Lib.hid hy
  clear he hx hy hbd
  go_enter Try.func30, Try.ntmps30
  go_wp2_with fail
  refine (span_any a b s.size _ ha hb hs').mono ?_
  rintro e w1 ⟨rfl, rfl⟩
  rw [Hx.out, Hy.out]
  go_wp2_with fail
  go_ret
  exact ⟨str_ret He.out, rfl⟩

def sliceLen : Value → Nat
  | .slice _ n _ => n
  | _ => 0

theorem OB.sliceForm {w : World} {B e : Nat} {v : Value} {l : List UInt8} (h : OB w B e v l) : ∃ A c, v = .slice A l.length c := by
  rcases h.form with ⟨rfl, h0⟩ | ⟨g, cap, rfl, _⟩
  · exact ⟨none, 0, by rw [h0]⟩
  · exact ⟨_, _, rfl⟩

set_option maxHeartbeats 1000000 in
theorem grown_any (s : ByteArray) (n : Nat) (w : World) (hs : s.size ≤ 1048576) (h0 : 1 ≤ n) (hn : n ≤ 1048576) :
    Calls Try.prog 42 #[.string s, .int .i64 n] w fun e w' => ∃ g cap, e = .returned (.slice (some ⟨g, 0, none⟩) (Tx.grown s.data.toList n).length cap) ∧ OB w' w.heap.size 5 (.slice (some ⟨g, 0, none⟩) (Tx.grown s.data.toList n).length cap) (Tx.grown s.data.toList n) ∧ Below w.heap.size w w' := by
  obtain ⟨i0, hi, hz0, hz1, hz2⟩ := info_parts u8info
  have hcv := run_bytes_of_string (P := Try.prog) w 9 60 5 s Try.underlying9 Try.underlying60 Try.underlying5
  have hob0 := OB.of_convert (w := w) s 5 w.heap.size (Nat.le_refl _) (by unfold maxLen; omega)
  have Hob0 := Lib.hid hob0
  have hb0 : Below w.heap.size w (w.drew.alloc (.cells (bytesRow s (grownCap w s.size 0 5)) 5 ((bytesRow s (grownCap w s.size 0 5)).size, (bytesRow s (grownCap w s.size 0 5)).size + 1))) := ((Below.refl _ _).drew).alloc (Nat.le_refl _) _
  have Hb0 := Lib.hid hb0
  have hlen := bs_len s
  have Hlen := Lib.hid hlen
  clear hob0 hb0 hlen
  go_enter Try.func42, Try.ntmps42
  go_wp2
  go_loopw [5] (fun v wr => ∃ l : List UInt8, OB wr w.heap.size 5 v l ∧ Hid (Tx.grown l n = Tx.grown s.data.toList n) ∧ l.length ≤ 1048576 ∧ Below w.heap.size w wr)
    (fun v _ => n - sliceLen v)
  case atStart => exact ⟨s.data.toList, Hob0.out, Lib.hid rfl, by rw [Hlen.out]; exact hs, Hb0.out⟩
  case round =>
    clear hcv Hob0 Hb0
    obtain ⟨l, hob, hg, hl, hbel⟩ := hrel
    obtain ⟨A, c, rfl⟩ := hob.sliceForm
    have hbs := hbel.size
    by_cases hlt : l.length < n
    · go_wp2_with (first
        | (at_builtin
           refine wpList_append_Own _ rfl (.tmp 12) (.tmp 13) _ _ rfl w.heap.size 5 i0 _ 1 1 Try.underlying60 hi hz0 hz1 hz2 rfl (.slice A l.length c) l.length (bv l) rfl (hob.alloc _) _ 1 [.int .u8 0] rfl (Src.own (Own.lit (base := w.heap.size) wr #[.int .u8 0] 1 hbs (by decide) rfl) Try.underlying60 (by intro v hv; simp at hv; subst hv; rfl) (by decide)) (by unfold maxLen; omega) (by omega) (by simp; omega) ?_
           intro v1 w1 hO hgr hat
           have hOB : OB w1 w.heap.size 5 v1 (l ++ [0]) := OB.mk hO (by simp [bv])))
      obtain ⟨A1, c1, rfl⟩ := hOB.sliceForm
      refine ⟨⟨l ++ [0], hOB, Lib.hid (Tx.grown_step hg.out hlt), by simp; omega, (hbel.alloc hbs _).grown hgr (by simp; omega) (fun k hk => (hob.lt k hk).1)⟩, ?_⟩
      simp [sliceLen]
      omega
    · have hfin := Tx.grown_done hg.out (by omega)
      rcases hob.form with ⟨_, h00⟩ | ⟨g, cap, hv, _⟩
      · omega
      · have hA : A = some ⟨g, 0, none⟩ := by injection hv
        have Hfin := Lib.hid hfin
        subst hA
        clear hfin hg hv
        go_wp2
        go_ret
        rw [← Hfin.out]
        exact ⟨g, c, rfl, hob, hbel⟩

/-- A copy of a string's bytes into a row of bytes. -/
theorem OB.copy {w : World} {B g cap off dCap : Nat} {l : List UInt8} (h : OB w B 5 (.slice (some ⟨g, 0, none⟩) l.length cap) l) (t : ByteArray) (hfit : off + t.size ≤ l.length) (ty : TypeId) :
    ∃ w', (Builtin.copy_ #[60, 9] ty #[.slice (some ⟨g, off, none⟩) (l.length - off) dCap, .string t]).run Try.prog w = .ok (goInt t.size) w' ∧
      OB w' B 5 (.slice (some ⟨g, 0, none⟩) l.length cap) (l.take off ++ t.data.toList ++ l.drop (off + t.size)) ∧ w.grownBy w' (some g) := by
  obtain ⟨i0, hi, hz0, hz1, hz2⟩ := info_parts u8info
  obtain ⟨w', h1, h2, h3⟩ := run_copy_Own (P := Try.prog) w B 60 9 ty 5 Try.underlying60 (by rw [hi]; simp [hz1]) g cap l.length (bv l) h off (l.length - off) dCap (.string t) t.size (Lib.strCells t) (Src.str t Try.underlying9) (by omega) hfit
  refine ⟨w', h1, ?_, h3⟩
  have hlen : (l.take off ++ t.data.toList ++ l.drop (off + t.size)).length = l.length := by
    simp only [List.length_append, List.length_take, List.length_drop, bs_len]; omega
  have := OB.mk (l := l.take off ++ t.data.toList ++ l.drop (off + t.size)) h2 (by rw [strCells_bv]; simp [bv])
  exact this

theorem ret_str_code {a : ByteArray} {l : List UInt8} {c d : Int} (h : a = bs l) (h2 : c = d) : Ending.returned (.tuple #[.string a, .int .i64 c]) = .returned (.tuple #[sv l, .int .i64 d]) := by rw [h, h2]

set_option maxHeartbeats 1000000 in
theorem setRange_any (s : ByteArray) (i : Int) (t : ByteArray) (w : World) (hs : s.size ≤ 1048576) (hi : -9223372036854775808 ≤ i ∧ i ≤ 9223372036854775807) (ht : t.size ≤ 1048576) :
    Calls Try.prog 28 #[.string s, .int .i64 i, .string t] w fun e w' => e = .returned (.tuple #[sv (Tx.setRange s.data.toList i t.data.toList).1, .int .i64 (Tx.setRange s.data.toList i t.data.toList).2]) ∧ Below w.heap.size w w' := by
  have hlt := bs_len t
  by_cases h1 : i < 0
  · have H : Hid (Tx.setRange s.data.toList i t.data.toList = ([], 25)) := Lib.hid (by unfold Tx.setRange; rw [if_pos h1])
    clear hlt
    go_enter Try.func28, Try.ntmps28
    go_wp2
    go_ret2
    exact ⟨ret_str_code (by rw [H.out]; rfl) (by rw [H.out]), Below.refl _ _⟩
  by_cases h2 : t.size = 0
  · have H : Hid (Tx.setRange s.data.toList i t.data.toList = (s.data.toList, 0)) := Lib.hid (by unfold Tx.setRange; rw [if_neg h1, if_pos (by rw [hlt]; exact h2)])
    have h2' : ((t.size : Int) == 0) = true := by rw [h2]; rfl
    have h1' : 0 ≤ i := by omega
    clear hlt h2
    go_enter Try.func28, Try.ntmps28
    go_wp2
    go_ret2
    exact ⟨ret_str_code (by rw [H.out, bs_eta]) (by rw [H.out]), Below.refl _ _⟩
  have h2' : ((t.size : Int) == 0) = false := by rw [beq_eq_false_iff_ne]; omega
  have h1' : 0 ≤ i := by omega
  by_cases h3 : 65536 < i + t.size
  · have H : Hid (Tx.setRange s.data.toList i t.data.toList = ([], 11)) := Lib.hid (by unfold Tx.setRange; rw [if_neg h1, if_neg (by rw [hlt]; exact h2), hlt, if_pos h3])
    clear hlt h2
    go_enter Try.func28, Try.ntmps28
    go_wp2
    all_goals
      go_ret2
      exact ⟨ret_str_code (by rw [H.out]; rfl) (by rw [H.out]), Below.refl _ _⟩
  · obtain ⟨k, rfl⟩ := Int.eq_ofNat_of_zero_le h1'
    have H : Hid (Tx.setRange s.data.toList k t.data.toList = (Tx.laid s.data.toList k t.data.toList, 0)) := Lib.hid (by unfold Tx.setRange; rw [if_neg h1, if_neg (by rw [hlt]; exact h2), hlt, if_neg h3]; rfl)
    have hgl := Tx.grown_length s.data.toList (k + t.size)
    have hkL : k + t.size ≤ (Tx.grown s.data.toList (k + t.size)).length := by omega
    have hl : Hid (Tx.laid s.data.toList k t.data.toList = (Tx.grown s.data.toList (k + t.size)).take k ++ t.data.toList ++ (Tx.grown s.data.toList (k + t.size)).drop (k + t.size)) := Lib.hid (by unfold Tx.laid; rw [hlt])
    have ht0 : 0 < t.size := by omega
    have hm := grown_any s (k + t.size) w hs (by omega) (by omega)
    have Hm := Lib.hid hm
    clear hlt h2 hgl hm
    go_enter Try.func28, Try.ntmps28
    go_wp2_with fail
    rw [show ((k : Int) + (t.size : Int)) = ((k + t.size : Nat) : Int) from by omega]
    refine Hm.out.mono ?_
    rintro e w1 ⟨g, cap, rfl, hob, hb⟩
    obtain ⟨L, hL⟩ : ∃ L, L = Tx.grown s.data.toList (k + t.size) := ⟨_, rfl⟩
    rw [← hL] at hob hkL hl ⊢
    clear Hm hL
    have hcap : L.length ≤ cap := by
      rcases hob.form with ⟨hv, _⟩ | ⟨g', cap', hv, _, _, hc, _⟩
      · cases hv
      · injection hv with _ _ hv; omega
    have hcm : cap ≤ 9223372036854775807 := by
      rcases hob.form with ⟨hv, _⟩ | ⟨g', cap', hv, _, _, _, hc⟩
      · cases hv
      · injection hv with _ _ hv; unfold maxLen at hc; omega
    obtain ⟨w2, hrun, hob2, hg2⟩ := OB.copy hob t (off := k) (dCap := cap - k) hkL 3
    have hcv := hob2.string (P := Try.prog) Try.underlying60 Try.underlying5 Try.underlying9
    go_wp2_with fail
    go_ret2
    exact ⟨ret_str_code (by rw [H.out]; simp only; rw [hl.out, List.append_assoc]) (by rw [H.out]), hb.grown hg2 hb.size (fun x hx => by injection hx with hx; subst hx; exact (hob.lt _ rfl).1)⟩

theorem u8_and1_all : ∀ x : Fin 256, bits .and .u8 (x.val : Int) 1 = ((x.val % 2 : Nat) : Int) := by decide +kernel
theorem u8_and1 (x : Nat) (h : x < 256) : bits .and .u8 (x : Int) 1 = ((x % 2 : Nat) : Int) := u8_and1_all ⟨x, h⟩
theorem bit_eq (c k : Nat) (h : c < 256) : wrap64 (bits .and .u8 ((c : Int) / 2 ^ k) 1) = (Tx.bitOf c k : Int) := by
  have e : ((c : Int) / 2 ^ k) = ((c / 2 ^ k : Nat) : Int) := by simp
  rw [e, u8_and1 _ (Nat.lt_of_le_of_lt (Nat.div_le_self _ _) h)]
  unfold Tx.bitOf wrap64
  omega

set_option maxHeartbeats 1000000 in
theorem bit_any (s : ByteArray) (i : Int) (w : World) (hs : s.size ≤ maxLen) (hi : -9223372036854775808 ≤ i ∧ i ≤ 9223372036854775807) :
    Calls Try.prog 34 #[.string s, .int .i64 i] w fun e w' => e = .returned (.int .i64 (Tx.bit s.data.toList i)) ∧ w = w' := by
  unfold maxLen at hs
  have hlen := bs_len s
  by_cases h1 : i < 0
  · have H : Hid (Tx.bit s.data.toList i = 0) := Lib.hid (by unfold Tx.bit; rw [if_pos (.inl h1)])
    clear hlen
    go_enter Try.func34, Try.ntmps34
    go_wp2
    go_ret
    exact ⟨ret_int (by rw [H.out]; rfl), rfl⟩
  by_cases h2 : (s.size : Int) ≤ i / 8
  · have H : Hid (Tx.bit s.data.toList i = 0) := Lib.hid (by unfold Tx.bit; rw [if_pos (.inr (by rw [hlen]; exact h2))])
    clear hlen
    go_enter Try.func34, Try.ntmps34
    go_wp2
    go_ret
    exact ⟨ret_int (by rw [H.out]; rfl), rfl⟩
  · obtain ⟨q, hq⟩ : ∃ q : Nat, i / 8 = (q : Int) := ⟨(i / 8).toNat, by omega⟩
    obtain ⟨r, hr⟩ : ∃ r : Nat, i % 8 = (r : Int) := ⟨(i % 8).toNat, by omega⟩
    have hr8 : r < 8 := by omega
    have hqs : q < s.size := by omega
    have H : Hid (Tx.bit s.data.toList i = Tx.bitOf s[q].toNat (7 - r)) := Lib.hid (by
      unfold Tx.bit
      rw [if_neg (by omega), hq, hr, Int.toNat_natCast, List.getElem?_eq_getElem (by rw [hlen]; exact hqs)]
      congr 1
      omega)
    clear hlen h2
    have h1' : 0 ≤ i := by omega
    go_enter Try.func34, Try.ntmps34
    go_wp2
    go_ret
    refine ⟨ret_int ?_, rfl⟩
    rw [H.out]
    exact bit_eq _ _ (UInt8.toNat_lt _)

set_option maxHeartbeats 1000000 in
theorem append_any (s t : ByteArray) (w : World) (hs : s.size ≤ 1048576) (ht : t.size ≤ 1048576) :
    Calls Try.prog 38 #[.string s, .string t] w fun e w' => e = .returned (.tuple #[sv (Tx.append s.data.toList t.data.toList).1, .int .i64 (Tx.append s.data.toList t.data.toList).2]) ∧ w = w' := by
  have hls := bs_len s
  have hlt := bs_len t
  by_cases h : 65536 < s.size + t.size
  · have H : Hid (Tx.append s.data.toList t.data.toList = ([], 11)) := Lib.hid (by unfold Tx.append; rw [hls, hlt, if_pos h])
    clear hls hlt
    go_enter Try.func38, Try.ntmps38
    go_wp2
    all_goals
      go_ret2
      exact ⟨ret_str_code (by rw [H.out]; rfl) (by rw [H.out]), rfl⟩
  · have H : Hid (Tx.append s.data.toList t.data.toList = (s.data.toList ++ t.data.toList, 0)) := Lib.hid (by unfold Tx.append; rw [hls, hlt, if_neg h])
    have hadd := run_string_add_sum (P := Try.prog) w s t (by omega)
    clear hls hlt
    go_enter Try.func38, Try.ntmps38
    go_wp2
    go_ret2
    exact ⟨ret_str_code (by rw [H.out, ← bs_append, bs_eta, bs_eta]) (by rw [H.out]), rfl⟩

theorem ret_three {a : ByteArray} {l : List UInt8} {b c d f : Int} (h : a = bs l) (h2 : b = c) (h3 : d = f) : Ending.returned (.tuple #[.string a, .int .i64 b, .int .i64 d]) = .returned (.tuple #[sv l, .int .i64 c, .int .i64 f]) := by rw [h, h2, h3]

theorem addS (w : World) (a b n : Int) (ha : -9223372036854775808 ≤ a ∧ a ≤ 9223372036854775807) (hb : -9223372036854775808 ≤ b ∧ b ≤ 9223372036854775807) (h : Num.add a b = some n) :
    Calls Try.prog 20 #[.int .i64 a, .int .i64 b] w fun e w' => e = .returned (.tuple #[.int .i64 n, .bool true]) ∧ w = w' :=
  (add_any a b w ha.1 ha.2 hb.1 hb.2).mono fun e w' ⟨he, hw⟩ => ⟨by rw [he, h]; rfl, hw⟩
theorem addN (w : World) (a b : Int) (ha : -9223372036854775808 ≤ a ∧ a ≤ 9223372036854775807) (hb : -9223372036854775808 ≤ b ∧ b ≤ 9223372036854775807) (h : Num.add a b = none) :
    Calls Try.prog 20 #[.int .i64 a, .int .i64 b] w fun e w' => e = .returned (.tuple #[.int .i64 0, .bool false]) ∧ w = w' :=
  (add_any a b w ha.1 ha.2 hb.1 hb.2).mono fun e w' ⟨he, hw⟩ => ⟨by rw [he, h]; rfl, hw⟩
theorem add_bd {a b n : Int} (h : Num.add a b = some n) : -9223372036854775808 ≤ n ∧ n ≤ 9223372036854775807 := by
  unfold Num.add at h
  split at h
  · rename_i hc
    injection h with h
    omega
  · cases h

set_option maxHeartbeats 2000000 in
theorem incr_any (s : ByteArray) (d : Int) (w : World) (hs : s.size ≤ maxLen) (hd : -9223372036854775808 ≤ d ∧ d ≤ 9223372036854775807) :
    Calls Try.prog 31 #[.string s, .int .i64 d] w fun e w' => e = .returned (.tuple #[sv (Tx.incr s.data.toList d).1, .int .i64 (Tx.incr s.data.toList d).2.1, .int .i64 (Tx.incr s.data.toList d).2.2]) ∧ Below w.heap.size w w' := by
  rcases hp : Num.prs s.data.toList with _ | n
  · by_cases he : s.data.toList = []
    · have hse : s.toList = [] := by rw [ByteArray.toList_eq]; exact he
      have hse2 : s.toList.isEmpty = true := by rw [hse]; rfl
      rcases ha : Num.add 0 d with _ | m
      · have H : Hid (Tx.incr s.data.toList d = ([], 0, 6)) := Lib.hid (by unfold Tx.incr; rw [if_neg (by simp [he]), hp]; simp only [Option.getD_none]; rw [ha])
        have Hp := Lib.hid hp
        have Ha := Lib.hid ha
        clear hp ha he
        go_enter Try.func31, Try.ntmps31
        go_wp2_with fail
        refine (parse_none s _ hs Hp.out).mono ?_
        rintro e w1 ⟨rfl, hb1⟩
        go_wp2_with fail
        refine (addN _ 0 d (by omega) hd Ha.out).mono ?_
        rintro e w2 ⟨rfl, rfl⟩
        go_wp2_with fail
        go_ret3
        exact ⟨ret_three (by rw [H.out]; rfl) (by rw [H.out]) (by rw [H.out]), hb1⟩
      · have H : Hid (Tx.incr s.data.toList d = (Num.fmt m, m, 0)) := Lib.hid (by unfold Tx.incr; rw [if_neg (by simp [he]), hp]; simp only [Option.getD_none]; rw [ha])
        have hmb := add_bd ha
        have Hp := Lib.hid hp
        have Ha := Lib.hid ha
        clear hp ha he
        go_enter Try.func31, Try.ntmps31
        go_wp2_with fail
        refine (parse_none s _ hs Hp.out).mono ?_
        rintro e w1 ⟨rfl, hb1⟩
        go_wp2_with fail
        refine (addS _ 0 d m (by omega) hd Ha.out).mono ?_
        rintro e w2 ⟨rfl, rfl⟩
        go_wp2_with fail
        refine (format_any m _ hmb.1 hmb.2).mono ?_
        rintro e w3 ⟨rfl, hb3⟩
        go_wp2_with fail
        go_ret3
        exact ⟨ret_three (by rw [H.out]) (by rw [H.out]) (by rw [H.out]), below_trans hb1 hb3⟩
    · have hse : s.toList.isEmpty = false := by rw [ByteArray.toList_eq]; simpa using he
      have hse2 : (s.toList == []) = false := by rw [ByteArray.toList_eq]; simpa using he
      have H : Hid (Tx.incr s.data.toList d = ([], 0, 5)) := Lib.hid (by unfold Tx.incr; rw [if_pos ⟨by rw [hp]; rfl, he⟩])
      have Hp := Lib.hid hp
      clear hp he
      go_enter Try.func31, Try.ntmps31
      go_wp2_with fail
      refine (parse_none s _ hs Hp.out).mono ?_
      rintro e w1 ⟨rfl, hb1⟩
      go_wp2_with fail
      go_ret3
      exact ⟨ret_three (by rw [H.out]; rfl) (by rw [H.out]) (by rw [H.out]), hb1⟩
  · have hnb := Num.prs_bd hp
    rcases ha : Num.add n d with _ | m
    · have H : Hid (Tx.incr s.data.toList d = ([], 0, 6)) := Lib.hid (by unfold Tx.incr; rw [if_neg (by simp [hp]), hp]; simp only [Option.getD_some]; rw [ha])
      have Hp := Lib.hid hp
      have Ha := Lib.hid ha
      clear hp ha
      go_enter Try.func31, Try.ntmps31
      go_wp2_with fail
      refine (parse_some s n _ hs Hp.out).mono ?_
      rintro e w1 ⟨rfl, hb1⟩
      go_wp2_with fail
      refine (addN _ n d hnb hd Ha.out).mono ?_
      rintro e w2 ⟨rfl, rfl⟩
      go_wp2_with fail
      go_ret3
      exact ⟨ret_three (by rw [H.out]; rfl) (by rw [H.out]) (by rw [H.out]), hb1⟩
    · have H : Hid (Tx.incr s.data.toList d = (Num.fmt m, m, 0)) := Lib.hid (by unfold Tx.incr; rw [if_neg (by simp [hp]), hp]; simp only [Option.getD_some]; rw [ha])
      have hmb := add_bd ha
      have Hp := Lib.hid hp
      have Ha := Lib.hid ha
      clear hp ha
      go_enter Try.func31, Try.ntmps31
      go_wp2_with fail
      refine (parse_some s n _ hs Hp.out).mono ?_
      rintro e w1 ⟨rfl, hb1⟩
      go_wp2_with fail
      refine (addS _ n d m hnb hd Ha.out).mono ?_
      rintro e w2 ⟨rfl, rfl⟩
      go_wp2_with fail
      refine (format_any m _ hmb.1 hmb.2).mono ?_
      rintro e w3 ⟨rfl, hb3⟩
      go_wp2_with fail
      go_ret3
      exact ⟨ret_three (by rw [H.out]) (by rw [H.out]) (by rw [H.out]), below_trans hb1 hb3⟩
end Go.Proofs.Ytppfmgdooflllaa
