/- The walks of package req's words: word, Words. -/
import Derived.Test.YtjdnpgdedbegfaaReqW
import Derived.Deep.QuietTactic
import Derived.BigQuiet
import Derived.Deep.RegionHeld3
namespace Go.Proofs.Ytjdnpgdedbegfaa
open Go.RowKit
set_option linter.unusedVariables false

theorem quoted_plen : ∀ {q : UInt8} {l p r : List UInt8}, Rq.quoted q l = some (p, r) → p.length + r.length < l.length
  | q, [], p, r, h => by simp [Rq.quoted] at h
  | q, [c], p, r, h => by
    unfold Rq.quoted at h
    split at h
    · simp only [Option.some.injEq, Prod.mk.injEq] at h
      obtain ⟨rfl, rfl⟩ := h
      simp
    · cases h
  | q, c :: d :: t, p, r, h => by
    unfold Rq.quoted at h
    split at h
    · simp only [Option.some.injEq, Prod.mk.injEq] at h
      obtain ⟨rfl, rfl⟩ := h
      simp
    · split at h
      · rcases hq : Rq.quoted q t with _ | ⟨p1, r1⟩
        · rw [hq] at h; simp at h
        · rw [hq] at h
          simp only [Option.map_some, Option.some.injEq, Prod.mk.injEq] at h
          obtain ⟨rfl, rfl⟩ := h
          have := quoted_plen hq
          simp; omega
      · rcases hq : Rq.quoted q (d :: t) with _ | ⟨p1, r1⟩
        · rw [hq] at h; simp at h
        · rw [hq] at h
          simp only [Option.map_some, Option.some.injEq, Prod.mk.injEq] at h
          obtain ⟨rfl, rfl⟩ := h
          have := quoted_plen hq
          simp at this ⊢; omega
theorem blank_false' {c : UInt8} {n : Int} (h : Rq.blank c = false) (w : World) (hn : (c.toNat : Int) = n) : Calls Try.prog 22 #[.int .u8 n] w fun e w' => e = .returned (.bool false) ∧ w = w' := by
  subst hn
  exact blank_false h w
theorem blank_true' {c : UInt8} {n : Int} (h : Rq.blank c = true) (w : World) (hn : (c.toNat : Int) = n) : Calls Try.prog 22 #[.int .u8 n] w fun e w' => e = .returned (.bool true) ∧ w = w' := by
  subst hn
  exact blank_true h w
theorem WAt_over {l acc p r : List UInt8} {i j : Nat} (h : Rq.WAt l i acc) (hi : i < l.length) (hb : Rq.blank l[i] = false) (hc : ¬ (l[i] ≠ 34 ∧ l[i] ≠ 39)) (hq : Rq.quoted l[i] (l.drop (i + 1)) = some (p, r)) (he : Rq.ends r = true) (hr : r = l.drop j) (hj : j ≤ l.length) : Rq.WAt l j (acc ++ p) := by
  refine ⟨hj, ?_⟩
  rw [h.quote_ hi hb hc hq he, ← hr]
  cases r with
  | nil => simp [Rq.word]
  | cons c t => unfold Rq.word; rw [show Rq.blank c = true from he, if_pos rfl]; simp
theorem str_from (s : ByteArray) (k : Nat) : (s.extract k s.size).data.toList = s.data.toList.drop k := by
  rw [bs_extract, bs_data, List.take_of_length_le]
  rw [List.length_drop, bs_len]
  omega
theorem quoted_none' {s : ByteArray} {q : UInt8} {n : Int} (w : World) (hl : s.size ≤ 1048576) (hq : q ≠ 92) (hn : (q.toNat : Int) = n) (h : Rq.quoted q s.data.toList = none) :
    Calls Try.prog 31 #[.string s, .int .u8 n] w fun e w' => e = .returned (.tuple #[.string ⟨#[]⟩, .int .i64 0, .bool false]) ∧ Below w.heap.size w w' := by
  subst hn
  exact quoted_none s q w hl hq h
theorem quoted_some' {s : ByteArray} {q : UInt8} {n : Int} (w : World) (hl : s.size ≤ 1048576) (hq : q ≠ 92) (hn : (q.toNat : Int) = n) {p r : List UInt8} (h : Rq.quoted q s.data.toList = some (p, r)) (m : Nat) (hm : s.data.toList.length - r.length = m) :
    Calls Try.prog 31 #[.string s, .int .u8 n] w fun e w' => e = .returned (.tuple #[sv p, .int .i64 m, .bool true]) ∧ Below w.heap.size w w' := by
  subst hn
  exact quoted_some s q w hl hq h m hm

set_option maxHeartbeats 8000000 in
theorem word_any (s : ByteArray) (w : World) (hl : s.size ≤ 1048576) :
    Calls Try.prog 23 #[.string s] w fun e w' => e = .returned (qret s.data.toList (Rq.word s.data.toList)) ∧ Below w.heap.size w w' := by
  obtain ⟨B, hB⟩ : ∃ B, B = w.heap.size := ⟨_, rfl⟩
  rw [← hB]
  have HB := Lib.hid hB
  clear hB
  have hsz := bs_len s
  go_enter Try.func23, Try.ntmps23
  go_wp2
  go_loopw [5, 6] (fun v x wr => ∃ (k : Nat) (acc : List UInt8), k ≤ s.size ∧ acc.length ≤ k ∧ x = .int .i64 k ∧ v = sv acc ∧ Hid (Rq.WAt s.data.toList k acc) ∧ Below B w wr)
    (fun _ x _ => s.size - (intOf x).toNat)
  case atStart => exact ⟨0, [], by omega, by simp, rfl, rfl, Lib.hid (Rq.WAt.start _), Below.refl _ _⟩
  case round =>
    obtain ⟨k, acc, hk, hal, rfl, rfl, Hw, hbel⟩ := hrel
    have hbs : B ≤ wr.heap.size := by rw [HB.out]; exact hbel.size
    by_cases hlt : k < s.size
    · have hg : s.data.toList[k]'(by omega) = s[k] := str_get s k hlt (by omega)
      rcases hb : Rq.blank s[k] with _ | _
      · by_cases hc : s[k] ≠ 34 ∧ s[k] ≠ 39
        · have e1 := u8_nt (c := s[k]) 34 rfl hc.1
          have e2 := u8_nt (c := s[k]) 39 rfl hc.2
          have hadd : ∀ w, (Op.stringOp .add (bs acc) (s.extract k (k + 1))).run Try.prog w = .ok (sv (acc ++ [s[k]])) w := fun w => by
            rw [show s.extract k (k + 1) = bs [s[k]] from by
              rw [bs_extract, List.drop_eq_getElem_cons (by omega : k < s.data.toList.length), hg]
              simp [show k + 1 - k = 1 from by omega]]
            exact (run_string_add_sum w _ _ (by simp; omega)).trans (by rw [bs_append])
          have HW := Lib.hid (Hw.out.next (by omega) (by rw [hg]; exact hb) (by rw [hg]; exact hc))
          rw [hg] at HW
          clear hc
          go_wp2_with (go_at_call 22; refine (blank_false hb _).mono ?_; rintro e w' ⟨rfl, rfl⟩)
          go_roundw
          case rel => exact ⟨k + 1, acc ++ [s[k]], by omega, by rw [List.length_append, List.length_singleton]; omega, by go_num, rfl, HW, hbel⟩
          case measure => simp [intOf]; omega
        · have hc0 : ¬ (s.data.toList[k]'(by omega) ≠ 34 ∧ s.data.toList[k]'(by omega) ≠ 39) := by rw [hg]; exact hc
          have hb0 : Rq.blank (s.data.toList[k]'(by omega)) = false := by rw [hg]; exact hb
          have hex := str_from s (k + 1)
          have hxs : (s.extract (k + 1) s.size).size ≤ 1048576 := by simp; omega
          have hk1 : IntKind.i64.wrap ((k : Int) + 1) = (k : Int) + 1 := by rw [IntKind.wrap_i64]; omega
          have hsl1 : (0 : Int) ≤ (k : Int) + 1 := by omega
          have hsl2 : (k : Int) + 1 ≤ (s.size : Int) := by omega
          have h92 : s[k] ≠ 92 := by
            intro e; rw [e] at hc; exact hc (by decide)
          rcases hq : Rq.quoted s[k] (s.data.toList.drop (k + 1)) with _ | ⟨p, r⟩
          · have HQ := Lib.hid (show Rq.quoted s[k] (s.extract (k + 1) s.size).data.toList = none by rw [hex]; exact hq)
            have HW := Lib.hid (Hw.out.bad (by omega) hb0 hc0 (by rw [hg]; exact hq))
            have Hb := Lib.hid hb
            clear hq hex hc0 hb0
            have H92 := Lib.hid h92
            have hn : ∃ n : Int, (s[k].toNat : Int) = n ∧ (n = 34 ∨ n = 39) := by
              rcases (show s[k] = 34 ∨ s[k] = 39 from Classical.byContradiction fun h => hc ⟨fun e => h (.inl e), fun e => h (.inr e)⟩) with h | h
              · exact ⟨34, by rw [h]; rfl, .inl rfl⟩
              · exact ⟨39, by rw [h]; rfl, .inr rfl⟩
            clear hc h92 hb
            have hS0 : Below wr.heap.size wr wr := Below.refl _ _
            have hSd : Below wr.heap.size wr wr.drew := hS0.drew
            obtain ⟨n, e1, rfl | rfl⟩ := hn
            all_goals
              have He := Lib.hid e1
              go_wp2_with (go_at_call 22; refine (blank_false' Hb.out _ He.out).mono ?_; rintro e w' ⟨rfl, rfl⟩)
              go_region_held3 (fun w' => Below wr.heap.size wr w') (first | exact hS0 | exact hSd | exact hS1)
                (first
                  | (go_at_call 31; refine (quoted_none' _ hxs H92.out He.out HQ.out).mono ?_; rintro e w3 ⟨rfl, hb3⟩; have hS1 := below_trans hSd hb3))
              go_wp2
              go_ret3
              exact ⟨ret_q (by rw [HW.out]; rfl), hbel.trans (hS1.mono hbs)⟩
          · have hpl := quoted_plen hq
            have hsuf := Rq.suf_drop (Rq.quoted_suf hq).1
            have hle := (Rq.quoted_suf hq).2
            obtain ⟨m, hm⟩ : ∃ m, (s.data.toList.drop (k + 1)).length - r.length = m := ⟨_, rfl⟩
            rw [hm, List.drop_drop] at hsuf
            have hdl : (s.data.toList.drop (k + 1)).length = s.size - (k + 1) := by rw [List.length_drop, hsz]
            have hj : k + (m + 1) ≤ s.size := by omega
            have hpm : acc.length + p.length ≤ k + (m + 1) := by omega
            have hr : r = s.data.toList.drop (k + (m + 1)) := by rw [hsuf]; congr 1; omega
            have HQ := Lib.hid (show Rq.quoted s[k] (s.extract (k + 1) s.size).data.toList = some (p, r) by rw [hex]; exact hq)
            have HM := Lib.hid (show (s.extract (k + 1) s.size).data.toList.length - r.length = m by rw [hex]; exact hm)
            have hq0 : Rq.quoted (s.data.toList[k]'(by omega)) (s.data.toList.drop (k + 1)) = some (p, r) := by rw [hg]; exact hq
            have Hb := Lib.hid hb
            have H92 := Lib.hid h92
            have hn : ∃ n : Int, (s[k].toNat : Int) = n ∧ (n = 34 ∨ n = 39) := by
              rcases (show s[k] = 34 ∨ s[k] = 39 from Classical.byContradiction fun h => hc ⟨fun e => h (.inl e), fun e => h (.inr e)⟩) with h | h
              · exact ⟨34, by rw [h]; rfl, .inl rfl⟩
              · exact ⟨39, by rw [h]; rfl, .inr rfl⟩
            have hS0 : Below wr.heap.size wr wr := Below.refl _ _
            have hSd : Below wr.heap.size wr wr.drew := hS0.drew
            have hadd : ∀ w, (Op.stringOp .add (bs acc) (bs p)).run Try.prog w = .ok (sv (acc ++ p)) w := fun w => (run_string_add_sum w _ _ (by simp; omega)).trans (by rw [bs_append])
            by_cases hjl : k + (m + 1) < s.size
            · have hgj : s.data.toList[k + (m + 1)]'(by omega) = s[k + (m + 1)] := str_get s _ hjl (by omega)
              have hen : Rq.ends r = Rq.blank s[k + (m + 1)] := by rw [hr, Rq.drop_step (by omega : k + (m + 1) < s.data.toList.length), hgj]; rfl
              rcases hbj : Rq.blank s[k + (m + 1)] with _ | _
              · have HW := Lib.hid (Hw.out.late (by omega) hb0 hc0 hq0 (by rw [hen, hbj]))
                have Hbj := Lib.hid hbj
                clear hq hq0 hex hc0 hb0 hc h92 hb hen hbj hr hsuf hm hdl hpl hle
                obtain ⟨n, e1, rfl | rfl⟩ := hn
                all_goals
                  have He := Lib.hid e1
                  go_wp2_with (go_at_call 22; refine (blank_false' Hb.out _ He.out).mono ?_; rintro e w' ⟨rfl, rfl⟩)
                  go_region_held3 (fun w' => Below wr.heap.size wr w') (first | exact hS0 | exact hSd | exact hS1)
                    (first
                      | (go_at_call 31; refine (quoted_some' _ hxs H92.out He.out HQ.out m HM.out).mono ?_; rintro e w3 ⟨rfl, hb3⟩; have hS1 := below_trans hSd hb3))
                  go_wp2_with (go_at_call 22; refine (blank_false Hbj.out _).mono ?_; rintro e w' ⟨rfl, rfl⟩)
                  go_ret3
                  exact ⟨ret_q (by rw [HW.out]; rfl), hbel.trans (hS1.mono hbs)⟩
              · have HW := Lib.hid (WAt_over Hw.out (by omega) hb0 hc0 hq0 (by rw [hen, hbj]) hr (by omega))
                have Hbj := Lib.hid hbj
                clear hq hq0 hex hc0 hb0 hc h92 hb hen hbj hr hsuf hm hdl hpl hle
                obtain ⟨n, e1, rfl | rfl⟩ := hn
                all_goals
                  have He := Lib.hid e1
                  go_wp2_with (go_at_call 22; refine (blank_false' Hb.out _ He.out).mono ?_; rintro e w' ⟨rfl, rfl⟩)
                  go_region_held3 (fun w' => Below wr.heap.size wr w') (first | exact hS0 | exact hSd | exact hS1)
                    (first
                      | (go_at_call 31; refine (quoted_some' _ hxs H92.out He.out HQ.out m HM.out).mono ?_; rintro e w3 ⟨rfl, hb3⟩; have hS1 := below_trans hSd hb3))
                  go_wp2_with (go_at_call 22; refine (blank_true Hbj.out _).mono ?_; rintro e w' ⟨rfl, rfl⟩)
                  go_roundw
                  case rel =>
                    first
                      | exact ⟨k + (m + 1), acc ++ p, by omega, by rw [List.length_append]; omega, by go_num, rfl, HW, hbel.trans (hS1.mono hbs)⟩
                      | ((repeat apply Exists.intro); exact ⟨⟨k + (m + 1), acc ++ p, by omega, by rw [List.length_append]; omega, by go_num, rfl, HW, hbel.trans (hS1.mono hbs)⟩, rfl⟩)
                  case measure => simp [intOf]; omega
            · have hen : Rq.ends r = true := by rw [hr, List.drop_eq_nil_of_le (by omega)]; rfl
              have HW := Lib.hid (WAt_over Hw.out (by omega) hb0 hc0 hq0 hen hr (by omega))
              clear hq hq0 hex hc0 hb0 hc h92 hb hen hr hsuf hm hdl hpl hle
              obtain ⟨n, e1, rfl | rfl⟩ := hn
              all_goals
                have He := Lib.hid e1
                go_wp2_with (go_at_call 22; refine (blank_false' Hb.out _ He.out).mono ?_; rintro e w' ⟨rfl, rfl⟩)
                go_region_held3 (fun w' => Below wr.heap.size wr w') (first | exact hS0 | exact hSd | exact hS1)
                  (first
                    | (go_at_call 31; refine (quoted_some' _ hxs H92.out He.out HQ.out m HM.out).mono ?_; rintro e w3 ⟨rfl, hb3⟩; have hS1 := below_trans hSd hb3))
                go_wp2_with fail
                go_roundw
                case rel =>
                  first
                    | exact ⟨k + (m + 1), acc ++ p, by omega, by rw [List.length_append]; omega, by go_num, rfl, HW, hbel.trans (hS1.mono hbs)⟩
                    | ((repeat apply Exists.intro); exact ⟨⟨k + (m + 1), acc ++ p, by omega, by rw [List.length_append]; omega, by go_num, rfl, HW, hbel.trans (hS1.mono hbs)⟩, rfl⟩)
                case measure => simp [intOf]; omega
      · go_wp2_with (go_at_call 22; refine (blank_true hb _).mono ?_; rintro e w' ⟨rfl, rfl⟩)
        go_ret3
        exact ⟨ret_q (qret_some (Hw.out.blank_ (by omega) (by rw [hg]; exact hb)) (drop_left _ _ (by omega))).symm, hbel⟩
    · go_wp2_with fail
      go_ret3
      exact ⟨ret_q (qret_some (Hw.out.out (by omega)) (drop_left _ _ (by omega))).symm, hbel⟩
end Go.Proofs.Ytjdnpgdedbegfaa
