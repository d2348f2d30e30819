/- The walks of chapter 19's reference: line, count, blank. -/
import Derived.Test.YtjdnpgdedbegfaaLaw19e
namespace Go.Proofs.Ytjdnpgdedbegfaa.Rq
/-- The line's end, looked for at i. -/
def CAt (l : B) (p i : Nat) : Prop := p ≤ i ∧ i ≤ l.length ∧ crlf (l.drop p) = (crlf (l.drop i)).map (· + (i - p))
theorem CAt.start (l : B) (p : Nat) (h : p ≤ l.length) : CAt l p p := ⟨Nat.le_refl _, h, by rcases crlf (l.drop p) with _ | x <;> simp⟩
theorem CAt.hit {l : B} {p i : Nat} (h : CAt l p i) (hi : i + 1 < l.length) (h1 : l[i] = 13) (h2 : l[i + 1] = 10) : crlf (l.drop p) = some (i - p) := by
  rw [h.2.2, drop_step (show i < l.length by omega), drop_step hi, h1, h2]
  simp [crlf]
theorem CAt.next {l : B} {p i : Nat} (h : CAt l p i) (hi : i + 1 < l.length) (hn : ¬ (l[i] = 13 ∧ l[i + 1] = 10)) : CAt l p (i + 1) := by
  have h1 := h.1
  refine ⟨by omega, by omega, ?_⟩
  rw [h.2.2, drop_step (show i < l.length by omega)]
  conv => lhs; unfold crlf
  rw [drop_step hi, List.head?_cons, if_neg (by simpa using hn)]
  rcases crlf (l[i + 1] :: l.drop (i + 1 + 1)) with _ | x
  · rfl
  · simp; omega
theorem CAt.out {l : B} {p i : Nat} (h : CAt l p i) (hi : ¬ i + 1 < l.length) : crlf (l.drop p) = none := by
  rw [h.2.2]
  rcases Nat.lt_or_ge i l.length with h1 | h1
  · rw [drop_step h1, List.drop_eq_nil_of_le (by omega)]; simp [crlf]
  · rw [List.drop_eq_nil_of_le (by omega)]; rfl
end Go.Proofs.Ytjdnpgdedbegfaa.Rq
namespace Go.Proofs.Ytjdnpgdedbegfaa
open Go.RowKit Go.Shelf
set_option linter.unusedVariables false

theorem bs_get (l : List UInt8) (i : Nat) (h : i < (bs l).size) (hl : i < l.length) : (bs l)[i]'h = l[i]'hl := by
  have := str_get (bs l) i h (by rw [bs_data]; exact hl)
  rw [← this]
  exact List.getElem_of_eq (bs_data l) _
/-- What line gives. -/
def lineRet (l : List UInt8) (p : Nat) : Value :=
  match Rq.crlf (l.drop p) with
  | none => .tuple #[.string ⟨#[]⟩, .int .i64 0, .int .i64 (if 32 < l.length - p then 3 else 2)]
  | some n => if 32 < n then .tuple #[.string ⟨#[]⟩, .int .i64 0, .int .i64 3] else .tuple #[sv ((l.drop p).take n), .int .i64 (p + n + 2 : Nat), .int .i64 1]
theorem lineRet_none {l : List UInt8} {p : Nat} (h : Rq.crlf (l.drop p) = none) : lineRet l p = .tuple #[.string ⟨#[]⟩, .int .i64 0, .int .i64 (if 32 < l.length - p then 3 else 2)] := by unfold lineRet; rw [h]
theorem lineRet_long {l : List UInt8} {p n : Nat} (h : Rq.crlf (l.drop p) = some n) (hn : 32 < n) : lineRet l p = .tuple #[.string ⟨#[]⟩, .int .i64 0, .int .i64 3] := by unfold lineRet; rw [h]; simp only; rw [if_pos hn]
theorem lineRet_some {l : List UInt8} {p n : Nat} (h : Rq.crlf (l.drop p) = some n) (hn : ¬ 32 < n) : lineRet l p = .tuple #[sv ((l.drop p).take n), .int .i64 (p + n + 2 : Nat), .int .i64 1] := by unfold lineRet; rw [h]; simp only; rw [if_neg hn]

set_option maxRecDepth 100000 in
set_option maxHeartbeats 4000000 in
theorem ref_line (l : List UInt8) (p : Nat) (w : World) (hl : l.length ≤ 1048576) (hp : p ≤ l.length) :
    Calls Try.prog 44 #[.string (bs l), .int .i64 p] w fun e w' => e = .returned (lineRet l p) ∧ w = w' := by
  obtain ⟨n, hn⟩ : ∃ n, l.length = n := ⟨_, rfl⟩
  have HN := Lib.hid hn
  have HS := Lib.hid (Rq.CAt.start l p hp)
  rw [hn] at hl hp
  clear hn
  go_enter Try.func44, Try.ntmps44
  go_wp2_with fail
  go_loopw [7] (fun x wr => ∃ i : Nat, p ≤ i ∧ i ≤ n ∧ x = .int .i64 i ∧ Hid (Rq.CAt l p i) ∧ wr = w) (fun x _ => n - (intOf x).toNat)
  case atStart => exact ⟨p, Nat.le_refl _, hp, rfl, HS, rfl⟩
  case round =>
    obtain ⟨i, hi0, hi, rfl, HC, rfl⟩ := hrel
    have hbz : (bs l).size = n := by rw [bs_size]; exact HN.out
    have hln := HN.out
    by_cases hin : i + 1 < n
    · have hil : i + 1 < l.length := by omega
      have hg1 : (bs l)[i]'(by rw [bs_size]; omega) = l[i] := bs_get l i (by rw [bs_size]; omega) (by omega)
      have hg2 : (bs l)[i + 1]'(by rw [bs_size]; omega) = l[i + 1] := bs_get l (i + 1) (by rw [bs_size]; omega) (by omega)
      obtain ⟨d1, hd1⟩ : ∃ d, l[i] = d := ⟨_, rfl⟩
      obtain ⟨d2, hd2⟩ : ∃ d, l[i + 1] = d := ⟨_, rfl⟩
      rw [hd1] at hg1
      rw [hd2] at hg2
      have i1 : (i : Int) + 1 < (n : Int) := by omega
      have i2 : (0 : Int) ≤ (i : Int) := by omega
      have i3 : (i : Int) < (n : Int) := by omega
      by_cases hc : d1 = 13 ∧ d2 = 10
      · have HX := HC.out.hit hil (hd1.trans hc.1) (hd2.trans hc.2)
        obtain ⟨rfl, rfl⟩ := hc
        have hex : (bs l).extract p i = bs ((l.drop p).take (i - p)) := by rw [bs_extract, bs_data]
        have i4 : (0 : Int) ≤ (p : Int) := by omega
        have i5 : (p : Int) ≤ (i : Int) := by omega
        by_cases h32 : 32 < i - p
        · have HR := Lib.hid (lineRet_long HX h32)
          have i6 : (32 : Int) < (i : Int) - (p : Int) := by omega
          clear HX hd1 hd2 h32
          go_wp2_with fail
          go_ret3
          exact ⟨by rw [HR.out]; rfl, rfl⟩
        · have HR := Lib.hid (lineRet_some HX h32)
          have i6 : (i : Int) - (p : Int) ≤ 32 := by omega
          have HZ := Lib.hid (show ((p + (i - p) + 2 : Nat) : Int) = (i : Int) + 2 by omega)
          clear HX hd1 hd2 h32
          go_wp2_with fail
          go_ret3
          exact ⟨by rw [HR.out, HZ.out]; rfl, rfl⟩
      · have HX := Lib.hid (HC.out.next hil (by rw [hd1, hd2]; exact hc))
        clear hd1 hd2
        by_cases h13 : d1 = 13
        · subst h13
          have q2 := u8_f (c := d2) 10 rfl (fun e => hc ⟨rfl, e⟩)
          clear hc
          go_wp2_with fail
          go_roundw
          case rel =>
            first
              | exact ⟨i + 1, by omega, by omega, by go_num, HX, by first | rfl | trivial⟩
              | ((repeat apply Exists.intro); exact ⟨⟨i + 1, by omega, by omega, by go_num, HX, by first | rfl | trivial⟩, rfl⟩)
          case measure => (simp [intOf]) <;> omega
        · have q1 := u8_f (c := d1) 13 rfl h13
          clear hc
          go_wp2_with fail
          go_roundw
          case rel =>
            first
              | exact ⟨i + 1, by omega, by omega, by go_num, HX, by first | rfl | trivial⟩
              | ((repeat apply Exists.intro); exact ⟨⟨i + 1, by omega, by omega, by go_num, HX, by first | rfl | trivial⟩, rfl⟩)
          case measure => (simp [intOf]) <;> omega
    · have HX := HC.out.out (by rw [HN.out]; exact hin)
      have i1 : (n : Int) ≤ (i : Int) + 1 := by omega
      by_cases h32 : 32 < n - p
      · have HR := Lib.hid (lineRet_none HX)
        have HI := Lib.hid (show (if 32 < l.length - p then (3 : Int) else 2) = 3 by rw [HN.out, if_pos h32])
        have i6 : (32 : Int) < (n : Int) - (p : Int) := by omega
        clear HX h32
        go_wp2_with fail
        go_ret3
        exact ⟨by rw [HR.out, HI.out]; rfl, rfl⟩
      · have HR := Lib.hid (lineRet_none HX)
        have HI := Lib.hid (show (if 32 < l.length - p then (3 : Int) else 2) = 2 by rw [HN.out, if_neg h32])
        have i6 : (n : Int) - (p : Int) ≤ 32 := by omega
        clear HX h32
        go_wp2_with fail
        go_ret3
        exact ⟨by rw [HR.out, HI.out]; rfl, rfl⟩

/-- What count gives. -/
def countRet (l : List UInt8) : Rq.Res Int → Value
  | none => .tuple #[.int .i64 0, .int .i64 0, .int .i64 3]
  | some none => .tuple #[.int .i64 0, .int .i64 0, .int .i64 2]
  | some (some (x, r)) => .tuple #[.int .i64 x, .int .i64 (l.length - r.length : Nat), .int .i64 1]
theorem countRet_some {l r : List UInt8} {x : Int} {k : Nat} (h : l.length - r.length = k) : countRet l (some (some (x, r))) = .tuple #[.int .i64 x, .int .i64 (k : Nat), .int .i64 1] := by subst h; rfl
theorem ref_parse_none (l : List UInt8) (w : World) (hl : l.length ≤ maxLen) (h : Num.prs l = none) :
    Calls Try.prog 45 #[.string (bs l)] w fun e w' => e = .returned (.tuple #[.int .i64 0, .bool false]) ∧ w = w' :=
  (ref_parse (bs l) w (by rw [bs_size]; exact hl)).mono fun e w' ⟨he, hw⟩ => ⟨by rw [he, bs_data, h]; rfl, hw⟩
theorem ref_parse_some (l : List UInt8) (n : Int) (w : World) (hl : l.length ≤ maxLen) (h : Num.prs l = some n) :
    Calls Try.prog 45 #[.string (bs l)] w fun e w' => e = .returned (.tuple #[.int .i64 n, .bool true]) ∧ w = w' :=
  (ref_parse (bs l) w (by rw [bs_size]; exact hl)).mono fun e w' ⟨he, hw⟩ => ⟨by rw [he, bs_data, h]; rfl, hw⟩

set_option maxRecDepth 100000 in
set_option maxHeartbeats 4000000 in
theorem ref_count (l : List UInt8) (p : Nat) (low most : Int) (w : World) (hl : l.length ≤ 1048576) (hp : p ≤ l.length) :
    Calls Try.prog 33 #[.string (bs l), .int .i64 p, .int .i64 low, .int .i64 most] w fun e w' => e = .returned (countRet l (Rq.number low most (l.drop p))) ∧ w = w' := by
  have hline := fun w => ref_line l p w hl hp
  have hdl : (l.drop p).length = l.length - p := List.length_drop
  rcases hx : Rq.crlf (l.drop p) with _ | n
  · rw [lineRet_none hx] at hline
    by_cases h32 : 32 < l.length - p
    · rw [if_pos h32] at hline
      have HN := Lib.hid (show Rq.number low most (l.drop p) = none by unfold Rq.number; rw [hx]; simp only; rw [if_pos (by omega)])
      clear hdl hl hp h32
      go_enter Try.func33, Try.ntmps33
      go_wp2_with fail
      refine (hline w).mono ?_
      rintro e w1 ⟨rfl, rfl⟩
      go_wp2_with fail
      go_ret3
      exact ⟨by rw [HN.out]; rfl, rfl⟩
    · rw [if_neg h32] at hline
      have HN := Lib.hid (show Rq.number low most (l.drop p) = some none by unfold Rq.number; rw [hx]; simp only; rw [if_neg (by omega)])
      clear hdl hl hp h32
      go_enter Try.func33, Try.ntmps33
      go_wp2_with fail
      refine (hline w).mono ?_
      rintro e w1 ⟨rfl, rfl⟩
      go_wp2_with fail
      go_ret3
      exact ⟨by rw [HN.out]; rfl, rfl⟩
  · have hn2 := Rq.crlf_lt hx
    by_cases h32 : 32 < n
    · rw [lineRet_long hx h32] at hline
      have HN := Lib.hid (show Rq.number low most (l.drop p) = none by unfold Rq.number; rw [hx]; simp only; rw [if_pos h32])
      clear hdl hl hp h32 hn2
      go_enter Try.func33, Try.ntmps33
      go_wp2_with fail
      refine (hline w).mono ?_
      rintro e w1 ⟨rfl, rfl⟩
      go_wp2_with fail
      go_ret3
      exact ⟨by rw [HN.out]; rfl, rfl⟩
    · rw [lineRet_some hx h32] at hline
      have htl := Lib.hid (show ((l.drop p).take n).length ≤ maxLen by rw [List.length_take, hdl]; unfold maxLen; omega)
      rcases hprs : Num.prs ((l.drop p).take n) with _ | x
      · have HN := Lib.hid (show Rq.number low most (l.drop p) = none by unfold Rq.number; rw [hx]; simp only; rw [if_neg h32, hprs])
        clear hdl hl hp h32 hn2
        go_enter Try.func33, Try.ntmps33
        go_wp2_with fail
        refine (hline w).mono ?_
        rintro e w1 ⟨rfl, rfl⟩
        go_wp2_with fail
        refine (ref_parse_none _ w htl.out hprs).mono ?_
        rintro e w1 ⟨rfl, rfl⟩
        go_wp2_with fail
        go_ret3
        exact ⟨by rw [HN.out]; rfl, rfl⟩
      · by_cases hr : x < low ∨ most < x
        · have HN := Lib.hid (show Rq.number low most (l.drop p) = none by unfold Rq.number; rw [hx]; simp only; rw [if_neg h32, hprs]; simp only; rw [if_pos hr])
          clear hdl hl hp h32 hn2
          rcases (show x < low ∨ (low ≤ x ∧ most < x) by omega) with h1 | ⟨h1, h2⟩
          all_goals
            clear hr
            go_enter Try.func33, Try.ntmps33
            go_wp2_with fail
            refine (hline w).mono ?_
            rintro e w1 ⟨rfl, rfl⟩
            go_wp2_with fail
            refine (ref_parse_some _ x w htl.out hprs).mono ?_
            rintro e w1 ⟨rfl, rfl⟩
            go_wp2_with fail
            go_ret3
            exact ⟨by rw [HN.out]; rfl, rfl⟩
        · have HN := Lib.hid (show Rq.number low most (l.drop p) = some (some (x, (l.drop p).drop (n + 2))) by unfold Rq.number; rw [hx]; simp only; rw [if_neg h32, hprs]; simp only; rw [if_neg hr])
          have HZ := Lib.hid (show l.length - ((l.drop p).drop (n + 2)).length = p + n + 2 by rw [List.length_drop, hdl]; omega)
          have h1 : low ≤ x := by omega
          have h2 : x ≤ most := by omega
          clear hdl hl hp h32 hn2 hr
          go_enter Try.func33, Try.ntmps33
          go_wp2_with fail
          refine (hline w).mono ?_
          rintro e w1 ⟨rfl, rfl⟩
          go_wp2_with fail
          refine (ref_parse_some _ x w htl.out hprs).mono ?_
          rintro e w1 ⟨rfl, rfl⟩
          go_wp2_with fail
          go_ret3
          exact ⟨by rw [HN.out, countRet_some HZ.out]; rfl, rfl⟩

theorem ref_blank (c : UInt8) (n : Int) (w : World) (hn : (c.toNat : Int) = n) : Calls Try.prog 34 #[.int .u8 n] w fun e w' => e = .returned (.bool (Rq.blank c)) ∧ w = w' := by
  subst hn
  by_cases h1 : c = 32
  · subst h1
    go_enter Try.func34, Try.ntmps34
    go_wp2
    go_ret
    exact ⟨rfl, rfl⟩
  · have q1 := u8_f 32 rfl h1
    by_cases h2 : c = 9
    · subst h2
      go_enter Try.func34, Try.ntmps34
      go_wp2
      go_ret
      exact ⟨rfl, rfl⟩
    · have q2 := u8_f 9 rfl h2
      by_cases h3 : c = 0
      · subst h3
        go_enter Try.func34, Try.ntmps34
        go_wp2
        go_ret
        exact ⟨rfl, rfl⟩
      · have q3 := u8_f 0 rfl h3
        have hb := Lib.hid (show Rq.blank c = false by unfold Rq.blank; rw [beq_eq_false_iff_ne.mpr h1, beq_eq_false_iff_ne.mpr h2, beq_eq_false_iff_ne.mpr h3]; rfl)
        go_enter Try.func34, Try.ntmps34
        go_wp2
        go_ret
        exact ⟨ret_bool hb.out.symm, rfl⟩
end Go.Proofs.Ytjdnpgdedbegfaa
