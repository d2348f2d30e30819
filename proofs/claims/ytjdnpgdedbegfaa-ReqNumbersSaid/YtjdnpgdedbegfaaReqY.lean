/- The walk of package req's Words. -/
import Derived.Test.YtjdnpgdedbegfaaReqX
namespace Go.Proofs.Ytjdnpgdedbegfaa
open Go.RowKit
set_option linter.unusedVariables false

theorem strinfo : (Try.prog.info? 9).map (fun i => (i.zero, i.size, i.bytes)) = some (some (.string ⟨#[]⟩), 1, 16) := by kernel_rfl

theorem word_none (s : ByteArray) (w : World) (hl : s.size ≤ 1048576) (h : Rq.word s.data.toList = none) :
    Calls Try.prog 23 #[.string s] w fun e w' => e = .returned (.tuple #[.string ⟨#[]⟩, .int .i64 0, .bool false]) ∧ Below w.heap.size w w' :=
  (word_any s w hl).mono fun e w' ⟨he, hw⟩ => ⟨by rw [he, h]; rfl, hw⟩
theorem word_some (s : ByteArray) (w : World) (hl : s.size ≤ 1048576) {p r : List UInt8} (h : Rq.word s.data.toList = some (p, r)) (n : Nat) (hn : s.data.toList.length - r.length = n) :
    Calls Try.prog 23 #[.string s] w fun e w' => e = .returned (.tuple #[sv p, .int .i64 n, .bool true]) ∧ Below w.heap.size w w' :=
  (word_any s w hl).mono fun e w' ⟨he, hw⟩ => ⟨by rw [he, h, ← hn]; rfl, hw⟩

/-- What Words gives. -/
def WRet (w w' : World) (e : Ending) (o : Option (List (List UInt8))) : Prop :=
  match o with
  | none => e = .returned (.tuple #[.slice none 0 0, .bool false])
  | some ws => ∃ v, e = .returned (.tuple #[v, .bool true]) ∧ Own w' w.heap.size 9 1 v ws.length (ws.map sv)

set_option maxRecDepth 4000 in
set_option maxHeartbeats 4000000 in
theorem words_any (s : ByteArray) (w : World) (hl : s.size ≤ 1048576) :
    Calls Try.prog 15 #[.string s] w fun e w' => WRet w w' e (Rq.words s.data.toList) ∧ Below w.heap.size w w' := by
  obtain ⟨i0, hi, hz0, hz1, hz2⟩ := info_parts strinfo
  have hsz := bs_len s
  go_enter Try.func15, Try.ntmps15
  go_wp2
  go_loopw [4, 5] (fun v x wr => ∃ (k : Nat) (acc : List (List UInt8)), k ≤ s.size ∧ acc.length ≤ 256 ∧ x = .int .i64 k ∧ Own wr w.heap.size 9 1 v acc.length (acc.map sv) ∧ Hid (Rq.WsAt s.data.toList k acc) ∧ Below w.heap.size w wr)
    (fun _ x _ => s.size - (intOf x).toNat)
  case atStart => exact ⟨0, [], by omega, by simp, rfl, Own.nil _ _ _ _, Lib.hid (Rq.WsAt.start _), Below.refl _ _⟩
  case round =>
    obtain ⟨k, acc, hk, hal, rfl, hob, Hw, hbel⟩ := hrel
    have hbs : w.heap.size ≤ wr.heap.size := hbel.size
    obtain ⟨A, c, rfl⟩ := hob.sliceForm
    by_cases hlt : k < s.size
    · have hg : s.data.toList[k]'(by omega) = s[k] := str_get s k hlt (by omega)
      rcases hb : Rq.blank s[k] with _ | _
      · have hb0 : Rq.blank (s.data.toList[k]'(by omega)) = false := by rw [hg]; exact hb
        have hex := str_from s k
        have hxs : (s.extract k s.size).size ≤ 1048576 := by simp; omega
        rcases hq : Rq.word (s.data.toList.drop k) with _ | ⟨p, r⟩
        · have HQ := Lib.hid (show Rq.word (s.extract k s.size).data.toList = none by rw [hex]; exact hq)
          have HW := Lib.hid (Rq.words_none (Hw.out.bad (by omega) hb0 hq))
          clear hq hex
          go_wp2_with (first
            | (go_at_call 22; refine (blank_false hb _).mono ?_; rintro e w' ⟨rfl, rfl⟩)
            | (go_at_call 23; refine (word_none _ _ hxs HQ.out).mono ?_; rintro e w3 ⟨rfl, hb3⟩))
          go_ret2
          exact ⟨by rw [HW.out]; rfl, hbel.trans (hb3.mono hbs)⟩
        · obtain ⟨m, hm⟩ : ∃ m, (s.data.toList.drop k).length - r.length = m := ⟨_, rfl⟩
          have HQ := Lib.hid (show Rq.word (s.extract k s.size).data.toList = some (p, r) by rw [hex]; exact hq)
          have HM := Lib.hid (show (s.extract k s.size).data.toList.length - r.length = m by rw [hex]; exact hm)
          have hdl : (s.data.toList.drop k).length = s.size - k := by rw [List.length_drop, hsz]
          by_cases h256 : 256 ≤ acc.length
          · have HW := Lib.hid (Hw.out.many h256 (by omega) hb0 hq)
            have hge : (256 : Int) ≤ (acc.length : Int) := by omega
            clear hq hex
            go_wp2_with (first
              | (go_at_call 22; refine (blank_false hb _).mono ?_; rintro e w' ⟨rfl, rfl⟩)
              | (go_at_call 23; refine (word_some _ _ hxs HQ.out m HM.out).mono ?_; rintro e w3 ⟨rfl, hb3⟩))
            go_ret2
            exact ⟨by rw [HW.out]; rfl, hbel.trans (hb3.mono hbs)⟩
          · obtain ⟨HW0, hm0⟩ := Hw.out.next (n := m) (by omega) hb0 hq hm.symm
            have HW := Lib.hid HW0
            clear hq hex HW0
            go_wp2_with (first
              | (go_at_call 22; refine (blank_false hb _).mono ?_; rintro e w' ⟨rfl, rfl⟩)
              | (go_at_call 23; refine (word_some _ _ hxs HQ.out m HM.out).mono ?_; rintro e w3 ⟨rfl, hb3⟩; have hob3 := hob.below_ hb3; have hbs3 : w.heap.size ≤ w3.heap.size := Nat.le_trans hbs hb3.size)
              | (at_builtin; refine wpList_append_Own _ rfl (.tmp 34) (.tmp 36) _ _ rfl w.heap.size 9 i0 _ 1 16 Try.underlying33 hi hz0 hz1 hz2 rfl (.slice A acc.length c) acc.length (acc.map sv) rfl (hob3.alloc _) _ 1 [sv p] rfl (Src.own (Own.lit (base := w.heap.size) w3 #[sv p] 1 hbs3 (by decide) rfl) Try.underlying33 (by intro v hv; simp at hv; subst hv; rfl) (by decide)) (by unfold maxLen; omega) (by omega) (by simp; omega) ?_; intro v1 w1 hO hgr hat))
            have hO1 : Own w1 w.heap.size 9 1 v1 (acc ++ [p]).length ((acc ++ [p]).map sv) := by
              rw [List.map_append, List.length_append]; exact hO
            have hb1 : Below w.heap.size w w1 := ((hbel.trans (hb3.mono hbs)).alloc hbs3 _).grown hgr (by simp; omega) (fun k hk => (hob.lt k hk).1)
            go_roundw
            case rel =>
              first
                | exact ⟨k + m, acc ++ [p], by omega, by rw [List.length_append, List.length_singleton]; omega, by go_num, hO1, HW, hb1⟩
                | ((repeat apply Exists.intro); exact ⟨⟨k + m, acc ++ [p], by omega, by rw [List.length_append, List.length_singleton]; omega, by go_num, hO1, HW, hb1⟩, rfl⟩)
            case measure => simp [intOf]; omega
      · have HW := Lib.hid (Hw.out.blank_ (by omega) (by rw [hg]; exact hb))
        go_wp2_with (go_at_call 22; refine (blank_true hb _).mono ?_; rintro e w' ⟨rfl, rfl⟩)
        go_roundw
        case rel =>
          first
            | exact ⟨k + 1, acc, by omega, hal, by go_num, hob, HW, hbel⟩
            | ((repeat apply Exists.intro); exact ⟨⟨k + 1, acc, by omega, hal, by go_num, hob, HW, hbel⟩, rfl⟩)
        case measure => simp [intOf]; omega
    · have HW := Lib.hid (Rq.words_some (Hw.out.out (by omega)) hal)
      go_wp2_with fail
      go_ret2
      exact ⟨by rw [HW.out]; exact ⟨_, rfl, hob⟩, hbel⟩
end Go.Proofs.Ytjdnpgdedbegfaa
