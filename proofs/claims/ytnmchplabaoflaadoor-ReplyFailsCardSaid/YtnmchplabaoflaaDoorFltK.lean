/- The walks of the laws FaultIs, FaultTexts, FaultDepths, FaultUnwraps. -/
import Derived.Test.YtnmchplabaoflaaDoorFltJ
namespace Go.Proofs.YtnmchplabaoflaaDoor
open Go.RowKit Go.Shelf
set_option linter.unusedVariables false

theorem chain_pos (c : Int) (v : Value) (ls : List (List UInt8)) (w : World) (hv : Arg1 w v ls) (hg : Et w) (hc : c ≠ 0) :
    Calls Tryd.prog 15 #[.int .i64 c, v] w fun e w' => ∃ g s r, e = .returned (.iface 42 (.pointer (some ⟨g, 0, none⟩))) ∧ Chn w' (cd c) ((g, s) :: r) ∧ s :: r.map (·.2) = nms 20 ls (min ls.length 10) ++ [first5] ∧ r.length = min ls.length 10 ∧ Below w.heap.size w w' := by
  refine (chain_any c v ls w hv hg hc).mono ?_
  rintro e w' ⟨l, rfl, hch, hn, hb⟩
  cases l with
  | nil => exfalso; have := congrArg List.length hn; simp at this
  | cons p r =>
    obtain ⟨g, s⟩ := p
    have hlen := congrArg List.length hn
    rw [List.length_append, nms_len _ _ _ (by omega)] at hlen
    simp at hlen
    exact ⟨g, s, r, rfl, hch, hn, hlen, hb⟩

set_option maxRecDepth 100000 in
set_option maxHeartbeats 4000000 in
theorem faultIs_ok (d : Int) (v : Value) (ls : List (List UInt8)) (w : World) (hv : Arg1 w v ls) (hg : Et w) (hm : My w) :
    Calls Tryd.prog 6 #[.int .i64 0, .int .i64 d, v] w fun e w' => e = .returned (.bool true) ∧ Below w.heap.size w w' := by
  have HG := Lib.hid hg
  have HM := Lib.hid hm
  clear hg hm
  go_enter Tryd.func6, Tryd.ntmps6
  go_wp2_with fail
  refine (chain_ok v ls _ hv).mono ?_
  rintro e w1 ⟨rfl, hb1⟩
  have HB1 := Lib.hid hb1; clear hb1
  go_wp2_with fail
  refine (known_any _ (HG.out.below_ HB1.out) (HM.out.below_ HB1.out)).mono ?_
  rintro e w2 ⟨rfl, hb2⟩
  have HB2 := Lib.hid (below_trans HB1.out hb2); clear hb2
  go_wp2_with fail
  go_ret
  exact ⟨rfl, HB2.out⟩

set_option maxRecDepth 100000 in
set_option maxHeartbeats 4000000 in
theorem faultIs_pos (c d : Int) (v : Value) (ls : List (List UInt8)) (w : World) (hv : Arg1 w v ls) (hc : c ≠ 0) (hg : Et w) (hm : My w) :
    Calls Tryd.prog 6 #[.int .i64 c, .int .i64 d, v] w fun e w' => e = .returned (.bool true) ∧ Below w.heap.size w w' := by
  have HG := Lib.hid hg
  have HM := Lib.hid hm
  clear hg hm
  have hc0 : (c == 0) = false := by simpa using hc
  have hcc : (c == c) = true := by simp
  obtain ⟨b, hcd⟩ : ∃ b, (c == d) = b := ⟨_, rfl⟩
  have HCD := Lib.hid hcd
  go_enter Tryd.func6, Tryd.ntmps6
  go_wp2_with fail
  refine (chain_pos c v ls _ hv HG.out hc).mono ?_
  rintro e w1 ⟨g, s, r, rfl, hch, hnm, hlen, hb1⟩
  have HB1 := Lib.hid hb1; clear hb1
  have HC := Lib.hid hch; have HN := Lib.hid hnm; have HL := Lib.hid hlen; clear hch hnm hlen
  go_wp2_with fail
  refine (is_any c c ((g, s) :: r) _ HC.out).mono ?_
  rintro e w2 ⟨rfl, rfl⟩
  rw [hcc]
  go_wp2_with fail
  refine (is_any c d ((g, s) :: r) _ HC.out).mono ?_
  rintro e w3 ⟨rfl, rfl⟩
  rw [HCD.out]
  cases b
  all_goals
    go_wp2_with fail
    refine (known_any _ (HG.out.below_ HB1.out) (HM.out.below_ HB1.out)).mono ?_
    rintro e w4 ⟨rfl, hb4⟩
    have HB4 := Lib.hid (below_trans HB1.out hb4); clear hb4
    go_wp2_with fail
    go_ret
    exact ⟨rfl, HB4.out⟩

set_option maxRecDepth 100000 in
set_option maxHeartbeats 4000000 in
theorem faultTexts_go (c : Int) (x : ByteArray) (w : World) (hcb : -9223372036854775808 ≤ c ∧ c ≤ 9223372036854775807) (hx : x.size ≤ maxLen) (hg : Et w) (hm : My w) :
    Calls Tryd.prog 3 #[.int .i64 c, .string x] w fun e w' => e = .returned (.bool true) ∧ Below w.heap.size w w' := by
  have HG := Lib.hid hg
  have HM := Lib.hid hm
  clear hg hm
  obtain ⟨s, hs⟩ : ∃ s, x.data.toList.take 100 = s := ⟨_, rfl⟩
  have hs100 : s.length ≤ 1000 := by rw [← hs, List.length_take]; omega
  obtain ⟨k, hk⟩ : ∃ k, within c 0 26 = k := ⟨_, rfl⟩
  have HCUT := Lib.hid (cut_any x 100 w hx (by decide))
  have HWI := Lib.hid (within_any c 0 26 w hcb.1 hcb.2 (by decide) (by decide) (by decide))
  rw [hs] at HCUT
  rw [hk] at HWI
  have T1 := Lib.hid (fun c w1 h1 => text_any c s w1 hs100 h1)
  have R1 := Lib.hid (fun c w1 => reft_any c s w1 hs100)
  clear hs hs100 hk hcb hx
  go_enter Tryd.func3, Tryd.ntmps3
  go_wp2_with fail
  refine (HCUT.out).mono ?_
  rintro e w1 ⟨rfl, rfl⟩
  go_wp2_with fail
  refine (HWI.out).mono ?_
  rintro e w2 ⟨rfl, rfl⟩
  go_wp2_with fail
  refine (T1.out c _ (HM.out.below_ (Below.refl _ _))).mono ?_
  rintro e w3 ⟨rfl, hb3⟩
  have HB3 := Lib.hid hb3; clear hb3
  go_wp2_with fail
  refine (R1.out c _).mono ?_
  rintro e w4 ⟨rfl, rfl⟩
  go_wp2_with fail
  refine (T1.out k _ (HM.out.below_ HB3.out)).mono ?_
  rintro e w5 ⟨rfl, hb5⟩
  have HB5 := Lib.hid (below_trans HB3.out hb5); clear hb5
  go_wp2_with fail
  refine (R1.out k _).mono ?_
  rintro e w6 ⟨rfl, rfl⟩
  go_wp2_with fail
  refine (known_any _ (HG.out.below_ HB5.out) (HM.out.below_ HB5.out)).mono ?_
  rintro e w7 ⟨rfl, hb7⟩
  have HB7 := Lib.hid (below_trans HB5.out hb7); clear hb7
  go_wp2_with fail
  go_ret
  exact ⟨rfl, HB7.out⟩

set_option maxRecDepth 100000 in
set_option maxHeartbeats 4000000 in
theorem faultUnwraps_ok (v : Value) (ls : List (List UInt8)) (x : ByteArray) (w : World) (hv : Arg1 w v ls) (hx : x.size ≤ maxLen) (hg : Et w) (hm : My w) :
    Calls Tryd.prog 7 #[.int .i64 0, v, .string x] w fun e w' => e = .returned (.bool true) ∧ Below w.heap.size w w' := by
  have HG := Lib.hid hg
  have HM := Lib.hid hm
  clear hg hm
  obtain ⟨x20, hs⟩ : ∃ s, x.data.toList.take 20 = s := ⟨_, rfl⟩
  have HCUT := Lib.hid (fun w1 => cut_any x 20 w1 hx (by decide))
  rw [hs] at HCUT
  clear hs hx
  go_enter Tryd.func7, Tryd.ntmps7
  go_wp2_with fail
  refine (chain_ok v ls _ hv).mono ?_
  rintro e w1 ⟨rfl, hb1⟩
  have HB1 := Lib.hid hb1; clear hb1
  go_wp2_with fail
  refine (HCUT.out _).mono ?_
  rintro e w2 ⟨rfl, rfl⟩
  go_wp2_with fail
  refine (wrap_nil _ _).mono ?_
  rintro e w3 ⟨rfl, hb3⟩
  have HB3 := Lib.hid (below_trans HB1.out hb3); clear hb3
  go_wp2_with fail
  refine (known_any _ (HG.out.below_ HB3.out) (HM.out.below_ HB3.out)).mono ?_
  rintro e w4 ⟨rfl, hb4⟩
  have HB4 := Lib.hid (below_trans HB3.out hb4); clear hb4
  go_wp2_with fail
  go_ret
  exact ⟨rfl, HB4.out⟩

set_option maxRecDepth 100000 in
set_option maxHeartbeats 4000000 in
theorem faultUnwraps_pos (c : Int) (v : Value) (ls : List (List UInt8)) (x : ByteArray) (w : World) (hv : Arg1 w v ls) (hc : c ≠ 0) (hx : x.size ≤ maxLen) (hg : Et w) (hm : My w) :
    Calls Tryd.prog 7 #[.int .i64 c, v, .string x] w fun e w' => e = .returned (.bool true) ∧ Below w.heap.size w w' := by
  have HG := Lib.hid hg
  have HM := Lib.hid hm
  clear hg hm
  have hc0 : (c == 0) = false := by simpa using hc
  obtain ⟨x20, hs⟩ : ∃ s, x.data.toList.take 20 = s := ⟨_, rfl⟩
  have HCUT := Lib.hid (fun w1 => cut_any x 20 w1 hx (by decide))
  rw [hs] at HCUT
  have HWR := Lib.hid (fun s l w1 h1 h2 => wrap_any (code_chain c) hc ⟨_, _, rfl⟩ s l w1 h1 h2)
  clear hs hx
  go_enter Tryd.func7, Tryd.ntmps7
  go_wp2_with fail
  refine (chain_pos c v ls _ hv HG.out hc).mono ?_
  rintro e w1 ⟨g, s, r, rfl, hch, hnm, hlen, hb1⟩
  have HB1 := Lib.hid hb1; clear hb1
  have HC := Lib.hid hch; have HN := Lib.hid hnm; have HL := Lib.hid hlen; clear hch hnm hlen
  go_wp2_with fail
  refine (HCUT.out _).mono ?_
  rintro e w2 ⟨rfl, rfl⟩
  go_wp2_with fail
  refine (HWR.out x20 ((g, s) :: r) _ HC.out (HG.out.below_ HB1.out)).mono ?_
  rintro e w3 ⟨g2, rfl, hch2, hb3⟩
  have HB3 := Lib.hid (below_trans HB1.out hb3); clear hb3
  have HC2 := Lib.hid hch2; clear hch2
  go_wp2_with fail
  refine (eunwrap_any ⟨_, _, rfl⟩ g2 x20 ((g, s) :: r) _ HC2.out).mono ?_
  rintro e w4 ⟨rfl, rfl⟩
  dsimp only [ev]
  obtain ⟨N, hN⟩ : ∃ N, r.length = N := ⟨_, rfl⟩
  have hN10 : N ≤ 10 := by rw [← hN, HL.out]; omega
  have HD1 := Lib.hid (fun w1 h1 h2 => depth_any c ((g, s) :: r) w1 h1 h2 (by simp only [List.length_cons]; omega))
  have HD2 := Lib.hid (fun w1 h1 h2 => depth_any c ((g2, x20) :: (g, s) :: r) w1 h1 h2 (by simp only [List.length_cons]; omega))
  simp only [List.length_cons, hN] at HD1 HD2
  have HC1 := Lib.hid HC2.out.2
  go_wp2_with fail
  refine (HD1.out _ (HC1.out.below (Below.refl _ _)) (HG.out.below_ HB3.out)).mono ?_
  rintro e w5 ⟨rfl, hb5⟩
  have HB5 := Lib.hid (below_trans HB3.out hb5); have HE5 := Lib.hid hb5; clear hb5
  go_wp2_with fail
  refine (HD2.out _ (HC2.out.below HE5.out) (HG.out.below_ HB5.out)).mono ?_
  rintro e w6 ⟨rfl, hb6⟩
  have HB6 := Lib.hid (below_trans HB5.out hb6); have HE6 := Lib.hid (below_trans HE5.out hb6); clear hb6
  have hsub : (N : Int) + 1 + 1 - 1 = N + 1 := by omega
  go_wp2_with fail
  refine (code_chain c ((g, s) :: r) _ (HC1.out.below HE6.out) (HG.out.below_ HB6.out)).mono ?_
  rintro e w7 ⟨rfl, hb7⟩
  have HB7 := Lib.hid (below_trans HB6.out hb7); have HE7 := Lib.hid (below_trans HE6.out hb7); clear hb7
  go_wp2_with fail
  refine (code_chain c ((g2, x20) :: (g, s) :: r) _ (HC2.out.below HE7.out) (HG.out.below_ HB7.out)).mono ?_
  rintro e w8 ⟨rfl, hb8⟩
  have HB8 := Lib.hid (below_trans HB7.out hb8); have HE8 := Lib.hid (below_trans HE7.out hb8); clear hb8
  go_wp2_with fail
  refine (cmd_any g2 x20 ((g, s) :: r) _ (HC2.out.below HE8.out) (HG.out.below_ HB8.out)).mono ?_
  rintro e w9 ⟨rfl, hb9⟩
  have HB9 := Lib.hid (below_trans HB8.out hb9); have HE9 := Lib.hid (below_trans HE8.out hb9); clear hb9
  go_wp2_with fail
  refine (HCUT.out _).mono ?_
  rintro e w10 ⟨rfl, rfl⟩
  go_wp2_with fail
  refine (cmd_any g s r _ (HC1.out.below HE9.out) (HG.out.below_ HB9.out)).mono ?_
  rintro e w11 ⟨rfl, hb11⟩
  have HB11 := Lib.hid (below_trans HB9.out hb11); have HE11 := Lib.hid (below_trans HE9.out hb11); clear hb11
  go_wp2_with fail
  refine (cmd_any g s r _ (HC1.out.below HE11.out) (HG.out.below_ HB11.out)).mono ?_
  rintro e w12 ⟨rfl, hb12⟩
  have HB12 := Lib.hid (below_trans HB11.out hb12); have HE12 := Lib.hid (below_trans HE11.out hb12); clear hb12
  go_wp2_with fail
  refine (error_none _).mono ?_
  rintro e w13 ⟨rfl, rfl⟩
  go_wp2_with fail
  refine (unwrap_none _).mono ?_
  rintro e w14 ⟨rfl, rfl⟩
  go_wp2_with fail
  refine (known_any _ (HG.out.below_ HB12.out) (HM.out.below_ HB12.out)).mono ?_
  rintro e w15 ⟨rfl, hb15⟩
  have HB15 := Lib.hid (below_trans HB12.out hb15); clear hb15
  go_wp2_with fail
  go_ret
  exact ⟨rfl, HB15.out⟩

end Go.Proofs.YtnmchplabaoflaaDoor
