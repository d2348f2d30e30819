/- The walks of package req's words: blank, escaped, quoted, word, Words. -/
import Derived.Test.YtjdnpgdedbegfaaNum
import Derived.Test.YtjdnpgdedbegfaaReqS
namespace Go.Proofs.Ytjdnpgdedbegfaa
open Go.RowKit
set_option linter.unusedVariables false

theorem Own.sliceForm {w : World} {B e size n : Nat} {v : Value} {xs : List Value} (h : Own w B e size v n xs) : ∃ A c, v = .slice A n c := by
  rcases h.form with ⟨h1, h2⟩ | ⟨g, cap, h1, _⟩
  · exact ⟨none, 0, by rw [h1, h2]⟩
  · exact ⟨_, _, h1⟩
theorem OB.sliceForm {w : World} {B e : Nat} {v : Value} {l : List UInt8} (h : OB w B e v l) : ∃ A c, v = .slice A l.length c := Own.sliceForm h
theorem u8_eq (c d : UInt8) : ((c.toNat : Int) == (d.toNat : Int)) = (c == d) := by
  by_cases h : c = d
  · subst h; simp
  · have h2 : ¬ c.toNat = d.toNat := fun e => h (UInt8.toNat_inj.mp e)
    rw [beq_eq_false_iff_ne.mpr (by omega), beq_eq_false_iff_ne.mpr h]
theorem u8_t {c d : UInt8} (n : Int) (hn : (d.toNat : Int) = n) (h : c = d) : ((c.toNat : Int) == n) = true := by rw [← hn, u8_eq, h]; simp
theorem u8_f {c d : UInt8} (n : Int) (hn : (d.toNat : Int) = n) (h : ¬ c = d) : ((c.toNat : Int) == n) = false := by rw [← hn, u8_eq]; simpa using h
theorem u8_nt {c d : UInt8} (n : Int) (hn : (d.toNat : Int) = n) (h : ¬ c = d) : ((c.toNat : Int) != n) = true := by unfold bne; rw [u8_f n hn h]; rfl
theorem u8_nf {c d : UInt8} (n : Int) (hn : (d.toNat : Int) = n) (h : c = d) : ((c.toNat : Int) != n) = false := by unfold bne; rw [u8_t n hn h]; rfl

theorem ret_bool {a b : Bool} (h : a = b) : Ending.returned (.bool a) = .returned (.bool b) := by rw [h]

theorem blank_any (c : UInt8) (w : World) : Calls Try.prog 22 #[.int .u8 c.toNat] w fun e w' => e = .returned (.bool (Rq.blank c)) ∧ w = w' := by
  by_cases h1 : c = 32
  · subst h1
    go_enter Try.func22, Try.ntmps22
    go_wp2
    go_ret
    exact ⟨rfl, rfl⟩
  · have q1 := u8_f 32 rfl h1
    by_cases h2 : c = 9
    · subst h2
      go_enter Try.func22, Try.ntmps22
      go_wp2
      go_ret
      exact ⟨rfl, rfl⟩
    · have q2 := u8_f 9 rfl h2
      by_cases h3 : c = 0
      · subst h3
        go_enter Try.func22, Try.ntmps22
        go_wp2
        go_ret
        exact ⟨rfl, rfl⟩
      · have q3 := u8_f 0 rfl h3
        have hb := Lib.hid (show Rq.blank c = false by unfold Rq.blank; rw [beq_eq_false_iff_ne.mpr h1, beq_eq_false_iff_ne.mpr h2, beq_eq_false_iff_ne.mpr h3]; rfl)
        go_enter Try.func22, Try.ntmps22
        go_wp2
        go_ret
        exact ⟨ret_bool hb.out.symm, rfl⟩
theorem blank_true {c : UInt8} (h : Rq.blank c = true) (w : World) : Calls Try.prog 22 #[.int .u8 c.toNat] w fun e w' => e = .returned (.bool true) ∧ w = w' :=
  (blank_any c w).mono fun e w' ⟨he, hw⟩ => ⟨by rw [he, h], hw⟩
theorem blank_false {c : UInt8} (h : Rq.blank c = false) (w : World) : Calls Try.prog 22 #[.int .u8 c.toNat] w fun e w' => e = .returned (.bool false) ∧ w = w' :=
  (blank_any c w).mono fun e w' ⟨he, hw⟩ => ⟨by rw [he, h], hw⟩

theorem escaped_any (d q : UInt8) (w : World) : Calls Try.prog 43 #[.int .u8 d.toNat, .int .u8 q.toNat] w fun e w' => e = .returned (.int .u8 (Rq.esc q d).toNat) ∧ w = w' := by
  by_cases h0 : q = 34
  · subst h0
    by_cases h1 : d = 110
    · subst h1
      go_enter Try.func43, Try.ntmps43
      go_wp2
      go_ret
      exact ⟨rfl, rfl⟩
    · have q1 := u8_f 110 rfl h1
      by_cases h2 : d = 114
      · subst h2
        go_enter Try.func43, Try.ntmps43
        go_wp2
        go_ret
        exact ⟨rfl, rfl⟩
      · have q2 := u8_f 114 rfl h2
        by_cases h3 : d = 116
        · subst h3
          go_enter Try.func43, Try.ntmps43
          go_wp2
          go_ret
          exact ⟨rfl, rfl⟩
        · have q3 := u8_f 116 rfl h3
          have hb := Lib.hid (show Rq.esc 34 d = d by unfold Rq.esc; rw [if_neg (by decide), if_neg h1, if_neg h2, if_neg h3])
          go_enter Try.func43, Try.ntmps43
          go_wp2
          go_ret
          exact ⟨ret_int (by rw [hb.out]), rfl⟩
  · have q0 := u8_nt 34 rfl h0
    have hb := Lib.hid (show Rq.esc q d = d by unfold Rq.esc; rw [if_pos h0])
    go_enter Try.func43, Try.ntmps43
    go_wp2
    go_ret
    exact ⟨ret_int (by rw [hb.out]), rfl⟩

theorem escaped_34 (d : UInt8) (w : World) : Calls Try.prog 43 #[.int .u8 d.toNat, .int .u8 34] w fun e w' => e = .returned (.int .u8 (Rq.esc 34 d).toNat) ∧ w = w' := escaped_any d 34 w

def qret (l : List UInt8) : Option (List UInt8 × List UInt8) → Value
  | none => .tuple #[.string ⟨#[]⟩, .int .i64 0, .bool false]
  | some (p, r) => .tuple #[sv p, .int .i64 (l.length - r.length : Nat), .bool true]

theorem drop_left (l : List UInt8) (k : Nat) (h : k ≤ l.length) : l.length - (l.drop k).length = k := by rw [List.length_drop]; omega
theorem str_get (s : ByteArray) (k : Nat) (h : k < s.size) (h' : k < s.data.toList.length) : s.data.toList[k] = s[k] := by rw [Array.getElem_toList]; rfl
theorem ret_q {l : List UInt8} {o : Option (List UInt8 × List UInt8)} {v : Value} (h : v = qret l o) : Ending.returned v = .returned (qret l o) := by rw [h]
theorem qret_some {l p r : List UInt8} {o : Option (List UInt8 × List UInt8)} {n : Nat} (h : o = some (p, r)) (hn : l.length - r.length = n) : qret l o = .tuple #[sv p, .int .i64 n, .bool true] := by rw [h, ← hn]; rfl

set_option maxHeartbeats 1600000 in
theorem quoted_any (s : ByteArray) (q : UInt8) (w : World) (hl : s.size ≤ 1048576) (hq : q ≠ 92) :
    Calls Try.prog 31 #[.string s, .int .u8 q.toNat] w fun e w' => e = .returned (qret s.data.toList (Rq.quoted q s.data.toList)) ∧ Below w.heap.size w w' := by
  obtain ⟨i0, hi, hz0, hz1, hz2⟩ := info_parts u8info
  obtain ⟨B, hB⟩ : ∃ B, B = w.heap.size := ⟨_, rfl⟩
  rw [← hB]
  have HB := Lib.hid hB
  clear hB
  have hsz := bs_len s
  go_enter Try.func31, Try.ntmps31
  go_wp2
  go_loopw [7, 8] (fun v x wr => ∃ (k : Nat) (acc : List UInt8), k ≤ s.size ∧ acc.length ≤ k ∧ x = .int .i64 k ∧ Hid (Rq.QAt q s.data.toList k acc) ∧ OB wr B 5 v acc ∧ Below B w wr)
    (fun _ x _ => s.size - (intOf x).toNat)
  case atStart => exact ⟨0, [], by omega, by simp, rfl, Lib.hid (Rq.QAt.start _ _), OB.nil _ _ _, Below.refl _ _⟩
  case round =>
    obtain ⟨k, acc, hk, hal, rfl, Hq, hob, hbel⟩ := hrel
    have hbs : B ≤ wr.heap.size := by rw [HB.out]; exact hbel.size
    by_cases hlt : k < s.size
    · have hg : s.data.toList[k]'(by omega) = s[k] := str_get s k hlt (by omega)
      by_cases h1 : s[k] = q
      · have e1 : ((s[k].toNat : Int) == (q.toNat : Int)) = true := by rw [u8_eq, h1]; simp
        have hcv := hob.string (P := Try.prog) Try.underlying30 Try.underlying5 Try.underlying9
        go_wp2
        go_ret3
        exact ⟨ret_q (qret_some (Hq.out.hit (by omega) (by rw [hg]; exact h1)) (drop_left _ _ (by omega))).symm, hbel⟩
      · have hxx := h1
        have e1 : ((s[k].toNat : Int) == (q.toNat : Int)) = false := by rw [u8_eq]; simpa using h1
        obtain ⟨A, c, rfl⟩ := hob.sliceForm
        by_cases h2 : s[k] = 92 ∧ ∃ hj : k + 1 < s.size, (q = 34 ∨ s[k + 1] = q)
        · obtain ⟨h2, hj, h3⟩ := h2
          have e2 := u8_t (c := s[k]) 92 rfl h2
          have hg1 : s.data.toList[k + 1]'(by omega) = s[k + 1] := str_get s (k + 1) hj (by omega)
          have HQ := Lib.hid (Hq.out.esc_ (by omega) hq (by rw [hg]; exact h2) (by rw [hg1]; exact h3))
          rw [hg1] at HQ
          by_cases h4 : q = 34
          · subst h4
            go_wp2_with (first | (go_at_call 43; refine (escaped_34 _ wr).mono ?_; rintro e w' ⟨rfl, rfl⟩) | (at_builtin; refine wpList_append_Own _ rfl (.tmp 55) (.tmp 61) _ _ rfl B 5 i0 _ 1 1 Try.underlying30 hi hz0 hz1 hz2 rfl (.slice A acc.length c) acc.length (bv acc) rfl (hob.alloc _) _ 1 [.int .u8 (Rq.esc 34 s[k + 1]).toNat] rfl (Src.own (Own.lit (base := B) wr #[.int .u8 (Rq.esc 34 s[k + 1]).toNat] 1 hbs (by decide) rfl) Try.underlying30 (by intro v hv; simp at hv; subst hv; rfl) (by decide)) (by unfold maxLen; omega) (by omega) (by simp; omega) ?_; intro v1 w1 hO hgr hat; have hOB : OB w1 B 5 v1 (acc ++ [(Rq.esc 34 s[k + 1])]) := OB.mk hO (by simp [bv])))
            obtain ⟨A1, c1, rfl⟩ := hOB.sliceForm
            go_roundw
            case rel => (repeat apply Exists.intro); exact ⟨⟨k + 2, acc ++ [Rq.esc 34 s[k + 1]], by omega, by rw [List.length_append, List.length_singleton]; omega, by go_num, HQ, hOB, (hbel.alloc hbs _).grown hgr (by simp; omega) (fun k hk => (hob.lt k hk).1)⟩, rfl⟩
            case measure => simp [intOf]; omega
          · have e4 := u8_f (c := q) 34 rfl h4
            have h5 : s[k + 1] = q := h3.resolve_left h4
            subst h5
            clear h3
            go_wp2_with (first | (go_at_call 43; refine (escaped_any _ _ wr).mono ?_; rintro e w' ⟨rfl, rfl⟩) | (at_builtin; refine wpList_append_Own _ rfl (.tmp 55) (.tmp 61) _ _ rfl B 5 i0 _ 1 1 Try.underlying30 hi hz0 hz1 hz2 rfl (.slice A acc.length c) acc.length (bv acc) rfl (hob.alloc _) _ 1 [.int .u8 (Rq.esc s[k + 1] s[k + 1]).toNat] rfl (Src.own (Own.lit (base := B) wr #[.int .u8 (Rq.esc s[k + 1] s[k + 1]).toNat] 1 hbs (by decide) rfl) Try.underlying30 (by intro v hv; simp at hv; subst hv; rfl) (by decide)) (by unfold maxLen; omega) (by omega) (by simp; omega) ?_; intro v1 w1 hO hgr hat; have hOB : OB w1 B 5 v1 (acc ++ [(Rq.esc s[k + 1] s[k + 1])]) := OB.mk hO (by simp [bv])))
            obtain ⟨A1, c1, rfl⟩ := hOB.sliceForm
            refine ⟨⟨k + 2, acc ++ [Rq.esc s[k + 1] s[k + 1]], by omega, by rw [List.length_append, List.length_singleton]; omega, by go_num, HQ, hOB, (hbel.alloc hbs _).grown hgr (by simp; omega) (fun k hk => (hob.lt k hk).1)⟩, by simp [intOf]; omega⟩
        · have HQ := Lib.hid (Hq.out.next (by omega) (by rw [hg]; exact h1) (by
            rintro ⟨x1, x2, x3⟩
            rw [hg] at x1
            refine h2 ⟨x1, by omega, ?_⟩
            rw [str_get s (k + 1) (by omega) (by omega)] at x3
            exact x3))
          rw [hg] at HQ
          by_cases h3 : s[k] = 92
          · have e2 := u8_t (c := s[k]) 92 rfl h3
            rw [h3] at HQ
            by_cases hj : k + 1 < s.size
            · have h4 : ¬ q = 34 := fun e => h2 ⟨h3, hj, .inl e⟩
              have h5 : ¬ s[k + 1] = q := fun e => h2 ⟨h3, hj, .inr e⟩
              have e4 := u8_f (c := q) 34 rfl h4
              have e5 : ((s[k + 1].toNat : Int) == (q.toNat : Int)) = false := by rw [u8_eq]; simpa using h5
              clear h2
              go_wp2_with (first | (at_builtin; refine wpList_append_Own _ rfl (.tmp 19) (.tmp 21) _ _ rfl B 5 i0 _ 1 1 Try.underlying30 hi hz0 hz1 hz2 rfl (.slice A acc.length c) acc.length (bv acc) rfl (hob.alloc _) _ 1 [.int .u8 92] rfl (Src.own (Own.lit (base := B) wr #[.int .u8 92] 1 hbs (by decide) rfl) Try.underlying30 (by intro v hv; simp at hv; subst hv; rfl) (by decide)) (by unfold maxLen; omega) (by omega) (by simp; omega) ?_; intro v1 w1 hO hgr hat; have hOB : OB w1 B 5 v1 (acc ++ [92]) := OB.mk hO (by simp [bv])))
              obtain ⟨A1, c1, rfl⟩ := hOB.sliceForm
              refine ⟨⟨k + 1, acc ++ [92], by omega, by rw [List.length_append, List.length_singleton]; omega, by go_num, HQ, hOB, (hbel.alloc hbs _).grown hgr (by simp; omega) (fun k hk => (hob.lt k hk).1)⟩, by simp [intOf]; omega⟩
            · clear h2
              go_wp2_with (first | (at_builtin; refine wpList_append_Own _ rfl (.tmp 19) (.tmp 21) _ _ rfl B 5 i0 _ 1 1 Try.underlying30 hi hz0 hz1 hz2 rfl (.slice A acc.length c) acc.length (bv acc) rfl (hob.alloc _) _ 1 [.int .u8 92] rfl (Src.own (Own.lit (base := B) wr #[.int .u8 92] 1 hbs (by decide) rfl) Try.underlying30 (by intro v hv; simp at hv; subst hv; rfl) (by decide)) (by unfold maxLen; omega) (by omega) (by simp; omega) ?_; intro v1 w1 hO hgr hat; have hOB : OB w1 B 5 v1 (acc ++ [92]) := OB.mk hO (by simp [bv])))
              obtain ⟨A1, c1, rfl⟩ := hOB.sliceForm
              refine ⟨⟨k + 1, acc ++ [92], by omega, by rw [List.length_append, List.length_singleton]; omega, by go_num, HQ, hOB, (hbel.alloc hbs _).grown hgr (by simp; omega) (fun k hk => (hob.lt k hk).1)⟩, by simp [intOf]; omega⟩
          · have e2 := u8_f (c := s[k]) 92 rfl h3
            clear h2
            go_wp2_with (first | (at_builtin; refine wpList_append_Own _ rfl (.tmp 19) (.tmp 21) _ _ rfl B 5 i0 _ 1 1 Try.underlying30 hi hz0 hz1 hz2 rfl (.slice A acc.length c) acc.length (bv acc) rfl (hob.alloc _) _ 1 [.int .u8 s[k].toNat] rfl (Src.own (Own.lit (base := B) wr #[.int .u8 s[k].toNat] 1 hbs (by decide) rfl) Try.underlying30 (by intro v hv; simp at hv; subst hv; rfl) (by decide)) (by unfold maxLen; omega) (by omega) (by simp; omega) ?_; intro v1 w1 hO hgr hat; have hOB : OB w1 B 5 v1 (acc ++ [s[k]]) := OB.mk hO (by simp [bv])))
            obtain ⟨A1, c1, rfl⟩ := hOB.sliceForm
            refine ⟨⟨k + 1, acc ++ [s[k]], by omega, by rw [List.length_append, List.length_singleton]; omega, by go_num, HQ, hOB, (hbel.alloc hbs _).grown hgr (by simp; omega) (fun k hk => (hob.lt k hk).1)⟩, by simp [intOf]; omega⟩
    · go_wp2
      go_ret3
      exact ⟨ret_q (by rw [Hq.out.out (by omega)]; rfl), hbel⟩

theorem quoted_none (s : ByteArray) (q : UInt8) (w : World) (hl : s.size ≤ 1048576) (hq : q ≠ 92) (h : Rq.quoted q s.data.toList = none) :
    Calls Try.prog 31 #[.string s, .int .u8 q.toNat] w fun e w' => e = .returned (.tuple #[.string ⟨#[]⟩, .int .i64 0, .bool false]) ∧ Below w.heap.size w w' :=
  (quoted_any s q w hl hq).mono fun e w' ⟨he, hw⟩ => ⟨by rw [he, h]; rfl, hw⟩
theorem quoted_some (s : ByteArray) (q : UInt8) (w : World) (hl : s.size ≤ 1048576) (hq : q ≠ 92) {p r : List UInt8} (h : Rq.quoted q s.data.toList = some (p, r)) (n : Nat) (hn : s.data.toList.length - r.length = n) :
    Calls Try.prog 31 #[.string s, .int .u8 q.toNat] w fun e w' => e = .returned (.tuple #[sv p, .int .i64 n, .bool true]) ∧ Below w.heap.size w w' :=
  (quoted_any s q w hl hq).mono fun e w' ⟨he, hw⟩ => ⟨by rw [he, h, ← hn]; rfl, hw⟩
end Go.Proofs.Ytjdnpgdedbegfaa
