/- The walk of the law FaultTells. -/
import Derived.Test.YtnmchplabaoflaaDoorFltL
namespace Go.Proofs.YtnmchplabaoflaaDoor
open Go.RowKit Go.Shelf
set_option linter.unusedVariables false

set_option maxRecDepth 100000 in
set_option maxHeartbeats 4000000 in
theorem faultTells_ok (v : Value) (la : List (List UInt8)) (w : World) (hv : Arg1 w v la) (hg : Et w) (hm : My w) :
    Calls Tryd.prog 8 #[.int .i64 0, v] w fun e w' => e = .returned (.bool true) ∧ Below w.heap.size w w' := by
  have HG := Lib.hid hg
  have HM := Lib.hid hm
  have HCH := Lib.hid (chain_ok v la _ hv)
  obtain ⟨A, cp, rfl, hR, hlm, hlen⟩ := hv
  obtain ⟨n, hn⟩ : ∃ n, la.length = n := ⟨_, rfl⟩
  rw [hn] at hlm HCH ⊢
  unfold maxLen at hlm
  clear hg hm hn hR hlen
  rcases (show (10 : Int) < (n : Int) ∨ ¬ (10 : Int) < (n : Int) by omega) with h1 | h1
  all_goals
    go_enter Tryd.func8, Tryd.ntmps8
    go_wp2_with fail
    refine HCH.out.mono ?_
    rintro e w1 ⟨rfl, hb1⟩
    have HB1 := Lib.hid hb1; clear hb1
    go_wp2_with fail
    refine (depth_nil _).mono ?_
    rintro e w2 ⟨rfl, hb2⟩
    have HB2 := Lib.hid (below_trans HB1.out hb2); clear hb2
    go_wp2_with fail
    refine (known_any _ (HG.out.below_ HB2.out) (HM.out.below_ HB2.out)).mono ?_
    rintro e w3 ⟨rfl, hb3⟩
    have HB3 := Lib.hid (below_trans HB2.out hb3); clear hb3
    go_wp2_with fail
    go_ret
    exact ⟨rfl, HB3.out⟩

set_option maxRecDepth 100000 in
set_option maxHeartbeats 4000000 in
theorem faultTells_pos (c : Int) (v : Value) (la : List (List UInt8)) (w : World) (hv : Arg1 w v la) (hc : c ≠ 0) (hg : Et w) (hm : My w) :
    Calls Tryd.prog 8 #[.int .i64 c, v] w fun e w' => e = .returned (.bool true) ∧ Below w.heap.size w w' := by
  have HG := Lib.hid hg
  have HM := Lib.hid hm
  have hc0 : (c == 0) = false := by simpa using hc
  have hcc : (c == c) = true := by simp
  have HCH := Lib.hid (chain_pos c v la _ hv hg hc)
  obtain ⟨A, cp, rfl, hR, hlm, hlen⟩ := hv
  obtain ⟨n, hn⟩ : ∃ n, la.length = n := ⟨_, rfl⟩
  have HN := Lib.hid hn
  have HR := Lib.hid hR
  have HL := Lib.hid hlen
  rw [hn] at hlm HCH ⊢
  unfold maxLen at hlm
  clear hg hm hn hR hlen hc
  go_enter Tryd.func8, Tryd.ntmps8
  go_wp2_with fail
  refine HCH.out.mono ?_
  rintro e w1 ⟨g, s, r, rfl, hch, hnm, hrl, hb1⟩
  obtain ⟨m, hm⟩ : ∃ m, min n 10 = m := ⟨_, rfl⟩
  rw [hm] at hnm hrl
  have hm10 : m ≤ 10 ∧ m ≤ n := by omega
  have HX := Lib.hid hm
  obtain ⟨S, hS⟩ : ∃ S, bs s = S := ⟨_, rfl⟩
  have HB1 := Lib.hid hb1
  have HC := Lib.hid hch
  have HLN := Lib.hid hrl
  have HNM := Lib.hid hnm
  have HS := Lib.hid hS
  clear hb1 hch hnm hrl hS hm HCH
  have HI := Lib.hid (is_any c c ((g, s) :: r))
  rw [hcc] at HI
  have HD := Lib.hid (fun w1 h1 h2 => depth_any c ((g, s) :: r) w1 h1 h2 (by simp only [List.length_cons]; rw [HLN.out]; omega))
  rw [List.length_cons, HLN.out] at HD
  have HCM := Lib.hid (fun w1 h1 h2 => cmd_any (E0 := cd c) g s r w1 h1 h2)
  unfold sv at HCM
  rw [HS.out] at HCM
  -- the text of the last command
  have hlast : (m = 0 ∧ S = ⟨#[102, 105, 114, 115, 116]⟩) ∨ (∃ x, 0 < m ∧ (w1.cell? = w1.cell? ∧ la[m - 1]? = some x ∧ S = bs (x.take 20))) := by
    have hnm := HNM.out
    rw [← HS.out]
    cases m with
    | zero =>
      refine .inl ⟨rfl, ?_⟩
      simp only [nms, List.take_zero, List.map_nil, List.reverse_nil, List.nil_append, List.cons.injEq] at hnm
      rw [hnm.1]; rfl
    | succ k =>
      have hk : k < la.length := by rw [HN.out]; omega
      rw [nms_next 20 la k hk] at hnm
      simp only [List.cons_append, List.cons.injEq] at hnm
      exact .inr ⟨la[k], by omega, rfl, by simp [hk], by rw [hnm.1]⟩
  have b1 : Below w1.heap.size w1 ((w1.alloc (.cells #[.pointer none] 42)).alloc (.cells #[.int .i64 0] 22)) := ((Below.refl _ w1).alloc (Nat.le_refl _) _).alloc (by simp) _
  have HAS := Lib.hid (as_fault' ⟨g, 0, none⟩ ⟨w1.heap.size, 0, none⟩ (.pointer none) ((w1.alloc (.cells #[.pointer none] 42)).alloc (.cells #[.int .i64 0] 22)) ((HG.out.below_ HB1.out).below_ b1) (by simp) (by simp))
  have HBA := Lib.hid b1
  have HAC := Lib.hid (fun t old w h1 h2 h3 h4 => as_code' c ((g, s) :: r) t old w h1 h2 h3 h4)
  rcases hlast with ⟨hm0, hS0⟩ | ⟨x, hmp, _, hx, hSx⟩
  · have hn0 : n = 0 := by have := HX.out; omega
    subst hn0 hm0 hS0
    clear HNM HR HL HN b1 HX
    go_wp2_with fail
    refine HAS.out.mono ?_
    rintro e w3 ⟨rfl, h1, h2, h3, h4⟩
    have h5 := (h4 ⟨w1.heap.size + 1, 0, none⟩ (by simp) (by simp)).1
    have h6 := (h4 ⟨w1.heap.size + 1, 0, none⟩ (by simp) (by simp)).2
    simp at h5 h6
    have HB3 := Lib.hid (HBA.out.trans (h3 w1.heap.size (by simp) (by simp; omega)))
    have hcell := chn_name (HC.out.below HB3.out)
    unfold sv at hcell
    rw [HS.out] at hcell
    have HAC3 := Lib.hid (HAC.out ⟨w1.heap.size + 1, 0, none⟩ (.int .i64 0) w3 (HC.out.below HB3.out) (HG.out.below_ (below_trans HB1.out HB3.out)) h5 h6)
    clear h3 h4 h5 h6
    go_wp2_with fail
    refine HAC3.out.mono ?_
    rintro e w4 ⟨rfl, q1, q2, q3, q4⟩
    have HB4 := Lib.hid (HB3.out.trans (q3 w1.heap.size (by simp) HB3.out.size))
    clear q3 q4 h1 h2 hcell
    go_wp2_with fail
    refine (HI.out _ (HC.out.below HB4.out)).mono ?_
    rintro e w5 ⟨rfl, rfl⟩
    go_wp2_with fail
    refine (code_chain c ((g, s) :: r) _ (HC.out.below HB4.out) (HG.out.below_ (below_trans HB1.out HB4.out))).mono ?_
    rintro e w6 ⟨rfl, hb6⟩
    have HB6 := Lib.hid (below_trans HB4.out hb6)
    clear hb6
    go_wp2_with fail
    refine (HCM.out _ (HC.out.below HB6.out) (HG.out.below_ (below_trans HB1.out HB6.out))).mono ?_
    rintro e w7 ⟨rfl, hb7⟩
    have HB7 := Lib.hid (below_trans HB6.out hb7)
    clear hb7
    go_wp2_with fail
    refine (HD.out _ (HC.out.below HB7.out) (HG.out.below_ (below_trans HB1.out HB7.out))).mono ?_
    rintro e w8 ⟨rfl, hb8⟩
    have HB8 := Lib.hid (below_trans HB1.out (below_trans HB7.out hb8))
    clear hb8
    go_wp2_with fail
    refine (known_any _ (HG.out.below_ HB8.out) (HM.out.below_ HB8.out)).mono ?_
    rintro e w9 ⟨rfl, hb9⟩
    have HB9 := Lib.hid (below_trans HB8.out hb9)
    clear hb9
    go_wp2_with fail
    go_ret
    exact ⟨rfl, HB9.out⟩
  · have hxl : x.length ≤ maxLen := HL.out x (List.mem_of_getElem? hx)
    have HCUT := Lib.hid (fun w => cut_sv x 20 w hxl (by decide))
    unfold sv at HCUT
    rw [← hSx] at HCUT
    obtain ⟨ad, u, hA, hblk, hget, hcl⟩ := HR.out.at_ (k := m - 1) (by rw [HN.out]; omega)
    have hu : u = .string (bs x) := by
      rw [List.getElem?_map, hx] at hget
      exact (Option.some.inj hget).symm
    subst hu hA
    have hcl1 := (HB1.out.cell (p := ad.add (m - 1)) (by rw [block_of_add]; exact hblk)).trans hcl
    obtain ⟨X, hX⟩ : ∃ X, bs x = X := ⟨_, rfl⟩
    rw [hX] at HCUT hcl1
    clear hX hget hcl hx hxl hSx
    rcases (show (10 : Int) < (n : Int) ∨ (¬ (10 : Int) < (n : Int)) by omega) with h10 | h10
    · have hmm : m = 10 := by have := HX.out; omega
      subst hmm
      have hcl9 : w1.cell? ⟨ad.block, ad.off + 9, none⟩ = some (.string X) := by have h9 := hcl1; unfold Addr.add at h9; simpa using h9
      clear HNM HR HL HN b1 HX hcl1
      go_wp2_with fail
      refine (HCUT.out _).mono ?_
      rintro e w2 ⟨rfl, rfl⟩
      go_wp2_with fail
      refine HAS.out.mono ?_
      rintro e w3 ⟨rfl, h1, h2, h3, h4⟩
      have h5 := (h4 ⟨w1.heap.size + 1, 0, none⟩ (by simp) (by simp)).1
      have h6 := (h4 ⟨w1.heap.size + 1, 0, none⟩ (by simp) (by simp)).2
      simp at h5 h6
      have HB3 := Lib.hid (HBA.out.trans (h3 w1.heap.size (by simp) (by simp; omega)))
      have hcell := chn_name (HC.out.below HB3.out)
      unfold sv at hcell
      rw [HS.out] at hcell
      have HAC3 := Lib.hid (HAC.out ⟨w1.heap.size + 1, 0, none⟩ (.int .i64 0) w3 (HC.out.below HB3.out) (HG.out.below_ (below_trans HB1.out HB3.out)) h5 h6)
      clear h3 h4 h5 h6
      go_wp2_with fail
      refine HAC3.out.mono ?_
      rintro e w4 ⟨rfl, q1, q2, q3, q4⟩
      have HB4 := Lib.hid (HB3.out.trans (q3 w1.heap.size (by simp) HB3.out.size))
      clear q3 q4 h1 h2 hcell
      go_wp2_with fail
      refine (HI.out _ (HC.out.below HB4.out)).mono ?_
      rintro e w5 ⟨rfl, rfl⟩
      go_wp2_with fail
      refine (code_chain c ((g, s) :: r) _ (HC.out.below HB4.out) (HG.out.below_ (below_trans HB1.out HB4.out))).mono ?_
      rintro e w6 ⟨rfl, hb6⟩
      have HB6 := Lib.hid (below_trans HB4.out hb6)
      clear hb6
      go_wp2_with fail
      refine (HCM.out _ (HC.out.below HB6.out) (HG.out.below_ (below_trans HB1.out HB6.out))).mono ?_
      rintro e w7 ⟨rfl, hb7⟩
      have HB7 := Lib.hid (below_trans HB6.out hb7)
      clear hb7
      go_wp2_with fail
      refine (HD.out _ (HC.out.below HB7.out) (HG.out.below_ (below_trans HB1.out HB7.out))).mono ?_
      rintro e w8 ⟨rfl, hb8⟩
      have HB8 := Lib.hid (below_trans HB1.out (below_trans HB7.out hb8))
      clear hb8
      go_wp2_with fail
      refine (known_any _ (HG.out.below_ HB8.out) (HM.out.below_ HB8.out)).mono ?_
      rintro e w9 ⟨rfl, hb9⟩
      have HB9 := Lib.hid (below_trans HB8.out hb9)
      clear hb9
      go_wp2_with fail
      go_ret
      exact ⟨rfl, HB9.out⟩
    · have hmm : m = n := by have := HX.out; omega
      subst hmm
      obtain ⟨k, rfl⟩ : ∃ k, m = k + 1 := ⟨m - 1, by omega⟩
      rw [Nat.add_sub_cancel] at hcl1
      clear HNM HR HL HN b1 HX
      go_wp2_with fail
      refine (HCUT.out _).mono ?_
      rintro e w2 ⟨rfl, rfl⟩
      go_wp2_with fail
      refine HAS.out.mono ?_
      rintro e w3 ⟨rfl, h1, h2, h3, h4⟩
      have h5 := (h4 ⟨w1.heap.size + 1, 0, none⟩ (by simp) (by simp)).1
      have h6 := (h4 ⟨w1.heap.size + 1, 0, none⟩ (by simp) (by simp)).2
      simp at h5 h6
      have HB3 := Lib.hid (HBA.out.trans (h3 w1.heap.size (by simp) (by simp; omega)))
      have hcell := chn_name (HC.out.below HB3.out)
      unfold sv at hcell
      rw [HS.out] at hcell
      have HAC3 := Lib.hid (HAC.out ⟨w1.heap.size + 1, 0, none⟩ (.int .i64 0) w3 (HC.out.below HB3.out) (HG.out.below_ (below_trans HB1.out HB3.out)) h5 h6)
      clear h3 h4 h5 h6
      go_wp2_with fail
      refine HAC3.out.mono ?_
      rintro e w4 ⟨rfl, q1, q2, q3, q4⟩
      have HB4 := Lib.hid (HB3.out.trans (q3 w1.heap.size (by simp) HB3.out.size))
      clear q3 q4 h1 h2 hcell
      go_wp2_with fail
      refine (HI.out _ (HC.out.below HB4.out)).mono ?_
      rintro e w5 ⟨rfl, rfl⟩
      go_wp2_with fail
      refine (code_chain c ((g, s) :: r) _ (HC.out.below HB4.out) (HG.out.below_ (below_trans HB1.out HB4.out))).mono ?_
      rintro e w6 ⟨rfl, hb6⟩
      have HB6 := Lib.hid (below_trans HB4.out hb6)
      clear hb6
      go_wp2_with fail
      refine (HCM.out _ (HC.out.below HB6.out) (HG.out.below_ (below_trans HB1.out HB6.out))).mono ?_
      rintro e w7 ⟨rfl, hb7⟩
      have HB7 := Lib.hid (below_trans HB6.out hb7)
      clear hb7
      go_wp2_with fail
      refine (HD.out _ (HC.out.below HB7.out) (HG.out.below_ (below_trans HB1.out HB7.out))).mono ?_
      rintro e w8 ⟨rfl, hb8⟩
      have HB8 := Lib.hid (below_trans HB1.out (below_trans HB7.out hb8))
      clear hb8
      go_wp2_with fail
      refine (known_any _ (HG.out.below_ HB8.out) (HM.out.below_ HB8.out)).mono ?_
      rintro e w9 ⟨rfl, hb9⟩
      have HB9 := Lib.hid (below_trans HB8.out hb9)
      clear hb9
      go_wp2_with fail
      go_ret
      exact ⟨rfl, HB9.out⟩
end Go.Proofs.YtnmchplabaoflaaDoor
