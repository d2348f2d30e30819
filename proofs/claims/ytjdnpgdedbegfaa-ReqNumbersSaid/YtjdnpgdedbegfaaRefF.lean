/- The walks of the reference's All, and of next, all, words (package tallboylaw19). -/
import Derived.Test.YtjdnpgdedbegfaaRefE
namespace Go.Proofs.Ytjdnpgdedbegfaa
open Go.RowKit Go.Shelf
set_option linter.unusedVariables false

theorem ref_next_no {l : List UInt8} (w : World) (hl : l.length ≤ 1048576) (h : Rq.nxt l = none) :
    Calls Try.prog 24 #[.string (bs l)] w fun e w' => e = .returned (.tuple #[.slice none 0 0, .int .i64 0, .int .i64 3]) ∧ Below w.heap.size w w' :=
  (ref_next l w hl).mono fun e w' ⟨he, hw⟩ => by rw [h] at he; exact ⟨he, hw⟩
theorem ref_next_part {l : List UInt8} (w : World) (hl : l.length ≤ 1048576) (h : Rq.nxt l = some none) :
    Calls Try.prog 24 #[.string (bs l)] w fun e w' => e = .returned (.tuple #[.slice none 0 0, .int .i64 0, .int .i64 2]) ∧ Below w.heap.size w w' :=
  (ref_next l w hl).mono fun e w' ⟨he, hw⟩ => by rw [h] at he; exact ⟨he, hw⟩
theorem ref_next_some {l : List UInt8} (w : World) (hl : l.length ≤ 1048576) {ss : List (List UInt8)} {r : List UInt8} (h : Rq.nxt l = some (some (ss, r))) (q : Nat) (hq : l.length - r.length = q) :
    Calls Try.prog 24 #[.string (bs l)] w fun e w' => ∃ A c, e = .returned (.tuple #[.slice A ss.length c, .int .i64 q, .int .i64 1]) ∧ Own w' w.heap.size 9 1 (.slice A ss.length c) ss.length (ss.map sv) ∧ Below w.heap.size w w' :=
  (ref_next l w hl).mono fun e w' ⟨he, hw⟩ => by
    rw [h] at he; subst hq
    obtain ⟨v, h1, h2⟩ := he
    obtain ⟨A, c, rfl⟩ := h2.sliceForm
    exact ⟨A, c, h1, h2, hw⟩

/-- What the reference's All gives. -/
def RAlRet (B : Nat) (w' : World) (e : Ending) (l : List UInt8) (x : List (List (List UInt8)) × List UInt8 × Bool) : Prop :=
  ∃ v, e = .returned (.tuple #[v, .int .i64 (l.length - x.2.1.length : Nat), .bool x.2.2]) ∧ LL w' B v x.1

set_option maxRecDepth 100000 in
set_option maxHeartbeats 8000000 in
theorem ref_all (l : List UInt8) (w : World) (hl : l.length ≤ 1048576) :
    Calls Try.prog 25 #[.string (bs l)] w fun e w' => RAlRet w.heap.size w' e l (Rq.all l) ∧ Below w.heap.size w w' := by
  obtain ⟨i0, hi, hz0, hz1, hz2⟩ := info_parts strsinfo
  obtain ⟨n, hn⟩ : ∃ n, l.length = n := ⟨_, rfl⟩
  have HN := Lib.hid hn
  rw [hn] at hl
  clear hn
  go_enter Try.func25, Try.ntmps25
  go_wp2_with fail
  go_loopw [5, 6] (fun v x wr => ∃ k acc, k ≤ n ∧ x = .int .i64 (k : Nat) ∧ LL wr w.heap.size v acc ∧ Hid (acc.length ≤ k) ∧ Below w.heap.size w wr ∧ Hid (Rq.AllAt l k acc)) (fun _ x _ => n - (intOf x).toNat)
  case atStart => exact ⟨0, [], Nat.zero_le _, rfl, LL.nil _ _, Lib.hid (Nat.zero_le _), Below.refl _ _, Lib.hid (Rq.AllAt.start l)⟩
  case round =>
    obtain ⟨k, acc, hkn, rfl, hLL, Hak, hbel, HA⟩ := hrel
    have hbs : w.heap.size ≤ wr.heap.size := hbel.size
    obtain ⟨A, cc, rfl⟩ := hLL.form
    have hbz : (bs l).size = n := by rw [bs_size]; exact HN.out
    have hln := HN.out
    have hdl := Lib.hid (show (l.drop k).length = n - k by rw [List.length_drop, HN.out])
    have hdl2 := Lib.hid (show (l.drop k).length ≤ 1048576 by rw [hdl.out]; omega)
    have hex : (bs l).extract k n = bs (l.drop k) := by rw [← HN.out, ex_drop]
    have hs1 : (0 : Int) ≤ (k : Int) := by omega
    have hs2 : (k : Int) ≤ (n : Int) := by omega
    rcases hx : Rq.nxt (l.drop k) with _ | _ | ⟨ss, r⟩
    · have HX := Lib.hid (HA.out.bad hx)
      have HRES := Lib.hid (show RAlRet w.heap.size wr (.returned (.tuple #[.slice A acc.length cc, .int .i64 k, .bool true])) l (Rq.all l) by
        rw [HX.out]
        refine ⟨_, ?_, hLL⟩
        rw [hdl.out, HN.out, show n - (n - k) = k from by omega])
      go_wp2_with fail
      refine (ref_next_no _ hdl2.out hx).mono ?_
      rintro e w1 ⟨rfl, hb1⟩
      go_wp2_with fail
      go_ret3
      obtain ⟨v, h1, h2⟩ := HRES.out
      exact ⟨⟨v, h1, h2.below_ hb1⟩, hbel.trans (hb1.mono hbs)⟩
    · have HX := Lib.hid (HA.out.part hx)
      have HRES := Lib.hid (show RAlRet w.heap.size wr (.returned (.tuple #[.slice A acc.length cc, .int .i64 k, .bool false])) l (Rq.all l) by
        rw [HX.out]
        refine ⟨_, ?_, hLL⟩
        rw [hdl.out, HN.out, show n - (n - k) = k from by omega])
      go_wp2_with fail
      refine (ref_next_part _ hdl2.out hx).mono ?_
      rintro e w1 ⟨rfl, hb1⟩
      go_wp2_with fail
      go_ret3
      obtain ⟨v, h1, h2⟩ := HRES.out
      exact ⟨⟨v, h1, h2.below_ hb1⟩, hbel.trans (hb1.mono hbs)⟩
    · have hrl := Rq.nxt_less hx
      have hra := Rq.nxt_at hx
      rw [hdl.out] at hrl
      obtain ⟨q, hq⟩ : ∃ q, (l.drop k).length - r.length = q := ⟨_, rfl⟩
      have HQ := Lib.hid hq
      have hq1 : 0 < q := by have := hdl.out; omega
      have hq2 : k + q ≤ n := by have := hdl.out; omega
      have HQp := Lib.hid hq1
      have hr : r = l.drop (k + q) := by rw [hra, HN.out]; congr 1; have := hdl.out; omega
      by_cases hss : ss = []
      · subst hss
        have HX := Lib.hid (HA.out.none_ hx hr)
        clear hr hra hq hq1 hrl
        go_wp2_with fail
        refine (ref_next_some _ hdl2.out hx q HQ.out).mono ?_
        rintro e w1 ⟨A1, c1, rfl, hO, hb1⟩
        have hb2 := hbel.trans (hb1.mono hbs)
        have hLL1 := hLL.below_ hb1
        go_wp2_with fail
        go_roundw
        case rel =>
          first
            | exact ⟨k + q, acc, by omega, by go_num, hLL1, Lib.hid (by have := Hak.out; omega), hb2, HX⟩
            | ((repeat apply Exists.intro); exact ⟨⟨k + q, acc, by omega, by go_num, hLL1, Lib.hid (by have := Hak.out; omega), hb2, HX⟩, rfl⟩)
        case measure => (simp [intOf]) <;> (have := HQp.out; omega)
      · have HX := Lib.hid (HA.out.some_ hx hss hr)
        have hsl : 0 < ss.length := List.length_pos_iff.mpr hss
        have hsl' : (0 : Int) < (ss.length : Int) := by omega
        clear hr hra hq hq1 hrl hss hsl
        go_wp2_with fail
        refine (ref_next_some _ hdl2.out hx q HQ.out).mono ?_
        rintro e w1 ⟨A1, c1, rfl, hO, hb1⟩
        have hb2 := hbel.trans (hb1.mono hbs)
        have hLL1 := hLL.below_ hb1
        have hbs1 : w.heap.size ≤ w1.heap.size := hb2.size
        obtain ⟨vs, hOv, hin⟩ := hLL1
        have hO1 := hO.mono hbs
        have Hlim := Hak.out
        go_wp2_with (at_builtin; refine wpList_append_Own _ rfl (.tmp 27) (.tmp 29) _ _ rfl w.heap.size 33 i0 _ 1 24 Try.underlying26 hi hz0 hz1 hz2 rfl (.slice A acc.length cc) acc.length vs rfl (hOv.alloc _) _ 1 [.slice A1 ss.length c1] rfl (Src.own (Own.lit (base := w.heap.size) w1 #[.slice A1 ss.length c1] 1 hbs1 (by decide) rfl) Try.underlying26 (by intro v hv; simp at hv; subst hv; rfl) (by decide)) (by unfold maxLen; omega) (by omega) (by simp; omega) ?_; intro v1 w2 hO2 hgr hat)
        have hL2 : LL w2 w.heap.size v1 (acc ++ [ss]) := LL.snoc (fun i l u a b => (hin i l u a b).alloc _) (hOv.alloc _) (hO1.alloc _) hgr hO2
        have hb3 : Below w.heap.size w w2 := (hb2.alloc hbs1 _).grown hgr (by simp; omega) (fun k hk => (hOv.lt k hk).1)
        go_roundw
        case rel =>
          first
            | exact ⟨k + q, acc ++ [ss], by omega, by go_num, hL2, Lib.hid (by rw [List.length_append, List.length_singleton]; have := HQp.out; omega), hb3, HX⟩
            | ((repeat apply Exists.intro); exact ⟨⟨k + q, acc ++ [ss], by omega, by go_num, hL2, Lib.hid (by rw [List.length_append, List.length_singleton]; have := HQp.out; omega), hb3, HX⟩, rfl⟩)
        case measure => (simp [intOf]) <;> (have := HQp.out; omega)
theorem ref_all_ret {l : List UInt8} (w : World) (hl : l.length ≤ 1048576) {x : List (List (List UInt8))} {r : List UInt8} {bad : Bool} (hr : Rq.all l = (x, r, bad)) (k : Nat) (hk : l.length - r.length = k) :
    Calls Try.prog 25 #[.string (bs l)] w fun e w' => ∃ A c, e = .returned (.tuple #[.slice A x.length c, .int .i64 k, .bool bad]) ∧ LL w' w.heap.size (.slice A x.length c) x ∧ Below w.heap.size w w' :=
  (ref_all l w hl).mono fun e w' ⟨⟨u, h1, h2⟩, hg⟩ => by
    rw [hr] at h1 h2
    obtain ⟨A, c, rfl⟩ := h2.form
    subst hk
    exact ⟨A, c, h1, h2, hg⟩
theorem strs_cells (X : List (List UInt8)) : ∀ x ∈ X.map sv, ∃ s, x = Value.string s := fun x hx => by obtain ⟨s, _, rfl⟩ := List.mem_map.mp hx; exact ⟨_, rfl⟩
theorem own_len {w : World} {B n : Nat} {e : TypeId} {v : Value} {xs : List Value} (h : Own w B e 1 v n xs) : n ≤ maxLen := by
  rcases h.form with ⟨_, h0⟩ | ⟨g, cap, _, _, _, h3, h4⟩
  · rw [h0]; exact Nat.zero_le _
  · exact Nat.le_trans h3 h4

set_option maxRecDepth 100000 in
set_option maxHeartbeats 8000000 in
theorem law_next (l : List UInt8) (w : World) (hl : l.length ≤ 1048576) (hm : Mx w) :
    Calls Try.prog 16 #[.string (bs l)] w fun e w' => e = .returned (.bool true) ∧ Below w.heap.size w w' := by
  obtain ⟨c0, w1, hcv, hob, hb1⟩ := conv_bytes l w (by unfold maxLen; omega)
  have hm1 := hm.below_ hb1
  have HL := Lib.hid hl
  rcases hx : Rq.nxt l with _ | _ | ⟨ss, r⟩
  · go_enter Try.func16, Try.ntmps16
    go_wp2_with fail
    refine (next_none w1 (BSl.own hob) hm1 HL.out hx).mono ?_
    rintro e w2 ⟨rfl, hb2⟩
    go_wp2_with fail
    refine (ref_next_no _ HL.out hx).mono ?_
    rintro e w3 ⟨rfl, hb3⟩
    go_wp2_with fail
    go_ret
    exact ⟨rfl, below_trans (below_trans hb1 hb2) hb3⟩
  · go_enter Try.func16, Try.ntmps16
    go_wp2_with fail
    refine (next_part w1 (BSl.own hob) hm1 HL.out hx).mono ?_
    rintro e w2 ⟨rfl, hb2⟩
    go_wp2_with fail
    refine (ref_next_part _ HL.out hx).mono ?_
    rintro e w3 ⟨rfl, hb3⟩
    go_wp2_with fail
    go_ret
    exact ⟨rfl, below_trans (below_trans hb1 hb2) hb3⟩
  · obtain ⟨q, hq⟩ : ∃ q, l.length - r.length = q := ⟨_, rfl⟩
    have HQ := Lib.hid hq
    clear hq
    go_enter Try.func16, Try.ntmps16
    go_wp2_with fail
    refine (next_some w1 (BSl.own hob) hm1 HL.out hx q HQ.out).mono ?_
    rintro e w2 ⟨A1, c1, rfl, hO1, hb2⟩
    go_wp2_with fail
    refine (ref_next_some _ HL.out hx q HQ.out).mono ?_
    rintro e w3 ⟨A2, c2, rfl, hO2, hb3⟩
    have hO1' := hO1.below_ hb3
    go_wp2_with fail
    refine (lists_same _ (own_len hO2) (hO1'.own_reads (Nat.le_refl _)) (hO2.own_reads (Nat.le_refl _)) (strs_cells ss)).mono ?_
    rintro e w4 ⟨rfl, qq, rfl⟩
    go_wp2_with fail
    go_ret
    exact ⟨rfl, Lib.below_drewN' (below_trans (below_trans hb1 hb2) hb3) qq⟩

set_option maxRecDepth 100000 in
set_option maxHeartbeats 8000000 in
theorem law_words (l : List UInt8) (w : World) (hl : l.length ≤ 1048576) :
    Calls Try.prog 18 #[.string (bs l)] w fun e w' => e = .returned (.bool true) ∧ Below w.heap.size w w' := by
  have HL := Lib.hid hl
  have hsz := Lib.hid (show (bs l).size ≤ 1048576 by rw [bs_size]; exact hl)
  rcases hx : Rq.words l with _ | ws
  · have HX := Lib.hid (show Rq.words (bs l).data.toList = none by rw [bs_data]; exact hx)
    go_enter Try.func18, Try.ntmps18
    go_wp2_with fail
    refine (words_no _ w hsz.out HX.out).mono ?_
    rintro e w2 ⟨rfl, hb2⟩
    go_wp2_with fail
    refine (ref_words_no _ HL.out hx).mono ?_
    rintro e w3 ⟨v3, rfl, hb3⟩
    go_wp2_with fail
    go_ret
    exact ⟨rfl, below_trans hb2 hb3⟩
  · have HX := Lib.hid (show Rq.words (bs l).data.toList = some ws by rw [bs_data]; exact hx)
    go_enter Try.func18, Try.ntmps18
    go_wp2_with fail
    refine (words_yes _ w hsz.out HX.out).mono ?_
    rintro e w2 ⟨v2, rfl, hO2, hb2⟩
    obtain ⟨A2, c2, rfl⟩ := hO2.sliceForm
    go_wp2_with fail
    refine (ref_words_yes _ HL.out hx).mono ?_
    rintro e w3 ⟨v3, rfl, hO3, hb3⟩
    obtain ⟨A3, c3, rfl⟩ := hO3.sliceForm
    have hO2' := hO2.below_ hb3
    go_wp2_with fail
    refine (lists_same _ (own_len hO3) (hO2'.own_reads (Nat.le_refl _)) (hO3.own_reads (Nat.le_refl _)) (strs_cells ws)).mono ?_
    rintro e w4 ⟨rfl, qq, rfl⟩
    go_wp2_with fail
    go_ret
    exact ⟨rfl, Lib.below_drewN' (below_trans hb2 hb3) qq⟩

set_option maxRecDepth 100000 in
set_option maxHeartbeats 8000000 in
theorem law_all (l : List UInt8) (w : World) (hl : l.length ≤ 1048576) (hm : Mx w) :
    Calls Try.prog 17 #[.string (bs l)] w fun e w' => e = .returned (.bool true) ∧ Below w.heap.size w w' := by
  obtain ⟨c0, w1, hcv, hob, hb1⟩ := conv_bytes l w (by unfold maxLen; omega)
  have hm1 := hm.below_ hb1
  have HL := Lib.hid hl
  rcases hall : Rq.all l with ⟨X, r, bad⟩
  obtain ⟨q, hq⟩ : ∃ q, l.length - r.length = q := ⟨_, rfl⟩
  have HQ := Lib.hid hq
  have HALL := Lib.hid hall
  have hXl : X.length ≤ 1048576 := Nat.le_trans (Rq.all_len hall).2.1 hl
  clear hq hall
  rcases bad with _ | _
  all_goals
    go_enter Try.func17, Try.ntmps17
    go_wp2_with fail
    refine (all_ret w1 (BSl.own hob) hm1 HL.out HALL.out q _ (by rw [HQ.out]) rfl).mono ?_
    rintro e w2 ⟨A1, c1, rfl, hL1, hb2⟩
    go_wp2_with fail
    refine (ref_all_ret _ HL.out HALL.out q HQ.out).mono ?_
    rintro e w3 ⟨A2, c2, rfl, hL2, hb3⟩
    have hL1' := hL1.below_ hb3
    have HL1 := Lib.hid hL1'
    have HL2 := Lib.hid hL2
    have HB := Lib.hid (below_trans (below_trans hb1 hb2) hb3)
    clear hL1 hL1' hL2 hob hcv hb1 hb2 hb3
    go_wp2_with fail
    go_loopw [9] (fun x w9 => ∃ j : Nat, j ≤ X.length ∧ x = .int .i64 j ∧ LL w9 w1.heap.size (.slice A1 X.length c1) X ∧ LL w9 w2.heap.size (.slice A2 X.length c2) X ∧ Below w.heap.size w w9) (fun x _ => X.length - (intOf x).toNat)
    case atStart => exact ⟨0, by omega, rfl, HL1.out, HL2.out, HB.out⟩
    case round =>
      clear HL1 HL2 HB
      obtain ⟨j, hj, rfl, hG, hW, hbl⟩ := hrel
      by_cases hjY : j < X.length
      · obtain ⟨a1, B1, d1, rfl, hc1, hr1⟩ := hG.at_ j hjY
        obtain ⟨a2, B2, d2, rfl, hc2, hr2⟩ := hW.at_ j hjY
        have hmx : X[j].length ≤ maxLen := by
          obtain ⟨vs, k1, k2⟩ := hG
          have hlv : vs.length = X.length := by have := k1.1; omega
          exact own_len (k2 j X[j] (vs[j]'(by omega)) (List.getElem?_eq_getElem hjY) (List.getElem?_eq_getElem (by omega)))
        have hls := fun q => lists_same (c1 := d1) (c2 := d2) (wr.drewN q) hmx (hr1.drewN q) (hr2.drewN q) (strs_cells X[j])
        obtain ⟨m, hm'⟩ : ∃ m, X[j].length = m := ⟨_, rfl⟩
        rw [hm'] at hc1 hc2 hls
        clear hm' hr1 hr2 hmx
        have i1 : (0 : Int) ≤ (j : Int) := by omega
        have i2 : (j : Int) < (X.length : Int) := by omega
        go_wp2_with fail
        go_quiet ((go_at_call 12; exact Calls.quiet_of (hls _)))
        go_wp2_with fail
        go_roundw
        case rel =>
          first
            | exact ⟨j + 1, by omega, by go_num, hG, hW, Lib.below_drewN' hbl _⟩
            | ((repeat apply Exists.intro); exact ⟨⟨j + 1, by omega, by go_num, hG, hW, Lib.below_drewN' hbl _⟩, rfl⟩)
        case measure => (simp [intOf]) <;> omega
      · have i2 : (X.length : Int) ≤ (j : Int) := by omega
        go_wp2_with fail
        go_ret
        exact ⟨rfl, hbl⟩
end Go.Proofs.Ytjdnpgdedbegfaa
