/- The walk of the law ReplyUnlike (tallboylaw17). -/
import Derived.Test.YtnmchplabaoflaaRplV
import Derived.Test.YtnmchplabaoflaaRplW
namespace Go.Proofs.Ytnmchplabaoflaa
open Go.RowKit
set_option linter.unusedVariables false

theorem more_alike {k : Int} {s : List UInt8} {n : Int} {l : List Rep} (p : Rep) (h : prt k = true) : (ord (psrt (.mk k s n l)) (psrt (.mk k s n (l ++ [p]))) == 0) = false := by
  unfold psrt
  rw [ord_sorted]
  exact beq_eq_false_iff_ne.2 (more_parts p h).1
theorem more_same {k : Int} {s : List UInt8} {n : Int} {l : List Rep} (p : Rep) (h : prt k = true) : (ord (.mk k s n l) (.mk k s n (l ++ [p])) == 0) = false := beq_eq_false_iff_ne.2 (more_parts p h).2
theorem none_alike {k : Int} {s : List UInt8} {n : Int} {l : List Rep} (p : Rep) (h : prt k = false) : (ord (psrt (.mk k s n l)) (psrt (.mk k s n (l ++ [p]))) == 0) = true := by
  unfold psrt
  rw [more_none p h, ord_self17]; rfl
theorem okS_more {k : Int} {s : List UInt8} {n : Int} {l : List Rep} (d : Int) (h : okM 6 (.mk k s n l)) : okS (.mk k s n (l ++ [.mk 3 [] d []])) := by
  have h1 := okS_iff.1 (okM_okS 6 _ h)
  unfold okM at h
  refine okS_iff.2 ⟨by rw [List.length_append]; have := h.2.2.2.1; simp; omega, fun r hr => ?_⟩
  rcases List.mem_append.1 hr with h2 | h2
  · exact h1.2 r h2
  · rw [List.mem_singleton.1 h2]
    exact okS_iff.2 ⟨by simp, by simp⟩

set_option maxRecDepth 100000 in
set_option maxHeartbeats 8000000 in
theorem replyUnlike_walk (v : Value) (m : Nat) (d : Int) (w : World) (hv : ArgN w v m) (hd : -9223372036854775808 ≤ d ∧ d ≤ 9223372036854775807) :
    Calls Try.prog 4 #[v, .int .i64 d] w fun e w' => e = .returned (.bool true) ∧ Below w.heap.size w w' := by
  obtain ⟨it, hi', hy0, hy1, hy2⟩ := info_parts repinfo
  obtain ⟨A0, c0, rfl, hm, _⟩ := id hv
  have HM := Lib.hid (made_any 6 (by decide) w (.slice A0 m c0) m 0 hv (Nat.zero_le _))
  rw [show (6 : Int) - ((6 : Nat) : Int) = 0 from rfl, show (((0 : Nat) : Int)) = 0 from rfl] at HM
  have HDB := Lib.hid hd
  clear hv hm hd
  go_enter Try.func4, Try.ntmps4
  go_wp2_with fail
  refine HM.out.mono ?_
  rintro e w1 ⟨⟨r, E, f, q, rfl, hok, hrv, hq⟩, hb1⟩
  obtain ⟨k, s, n, l⟩ := r
  obtain ⟨A, c, xs, hcs, hk1, hn1, hs1, hlc, hcm, hrd, hrl⟩ := hrv.fields
  simp only [Rep.k, Rep.s, Rep.n, Rep.l] at *
  obtain ⟨rfl, rfl⟩ : E = A ∧ f = c := by
    injection hcs with _ h; injection h with _ h; injection h with _ h; injection h with h _; injection h with h1 _ h2; exact ⟨h1, h2⟩
  have hl4 : l.length ≤ 4 := by unfold okM at hok; exact hok.2.2.2.1
  obtain ⟨N, hN⟩ : ∃ N, l.length = N := ⟨_, rfl⟩
  rw [hN] at hl4 hlc hrd ⊢
  have HN := Lib.hid hN
  have HOK := Lib.hid hok
  have HRV := Lib.hid hrv
  have HRD := Lib.hid hrd
  have HRL := Lib.hid hrl
  have HB1 := Lib.hid hb1
  have HS1 := Lib.hid hs1
  have HK1 := Lib.hid hk1
  have HN1 := Lib.hid hn1
  clear hcs hok hrv hrd hrl hb1 hs1 hk1 hn1 hN HM hq
  obtain ⟨W2, hW2⟩ : ∃ W, ((w1.alloc (.cells #[.int .i64 k, sv s, .int .i64 n, .slice E N f] 25)).alloc (.cells #[.int .i64 k, sv s, .int .i64 n, .slice E N f] 25)) = W := ⟨_, rfl⟩
  have hb5 : Blk W2 w1.heap.size 25 #[.int .i64 k, sv s, .int .i64 n, .slice E N f] := by
    rw [← hW2]; exact (Blk.new _ _ _).alloc _
  have hb7 : Blk W2 (w1.heap.size + 1) 25 #[.int .i64 k, sv s, .int .i64 n, .slice E N f] := by
    have := Blk.new (w1.alloc (.cells #[.int .i64 k, sv s, .int .i64 n, .slice E N f] 25)) 25 #[.int .i64 k, sv s, .int .i64 n, .slice E N f]
    rw [← hW2]
    simpa using this
  have hb2 : Below w1.heap.size w1 W2 := by rw [← hW2]; exact ((Below.refl _ _).alloc (Nat.le_refl _) _).alloc (by simp) _
  have hsz2 : W2.heap.size = w1.heap.size + 2 := by rw [← hW2]; simp
  have hown0 : Own (W2.alloc (.cells #[] 25)) (w1.heap.size + 2) 25 4 (.slice (some ⟨w1.heap.size + 2, 0, none⟩) 0 0) 0 [] := by
    have := Own.lit (base := w1.heap.size + 2) (e := 25) (size := 4) W2 #[] 0 (by omega) (Nat.zero_le _) rfl
    rwa [hsz2] at this
  have hb3 : Below w1.heap.size w1 (W2.alloc (.cells #[] 25)) := hb2.alloc hb2.size _
  have hrl3 : RLs (W2.alloc (.cells #[] 25)) (fun b => w.heap.size ≤ b ∧ b < w1.heap.size) l xs := RLs.keep (fun p hp => hb3.cell hp.2) HRL.out
  have hrd3 := RD.reads ((HRD.out.keep (fun p hp => hb3.cell hp.2)).mono (S' := fun b => b < w1.heap.size) (fun b hb => hb.2)) (fun b hb => Nat.lt_of_lt_of_le hb hb3.size)
  have hsrc := Src.slice (P := Try.prog) (u := 23) (e' := 25) (c := f) Try.underlying23 hrd3 hrl3.one1 (by decide)
  have HG3 := Lib.hid (show w1.heap.size + 2 ≤ (W2.alloc (.cells #[] 25)).heap.size by simp; omega)
  have hb7c := hb7.alloc (.cells #[] 25)
  have hb5c := hb5.alloc (.cells #[] 25)
  have hb2c := hb3
  rw [← hW2] at hsrc hown0 hb7c hb5c hb2c
  have HB7 := Lib.hid hb7c
  have HB5 := Lib.hid hb5c
  have HB2 := Lib.hid hb2c
  have HSRC := Lib.hid hsrc
  have HO0 := Lib.hid hown0
  have HWG := Lib.hid HB1.out.size
  clear hb5 hb7 hb2 hsz2 hown0 hb3 hrl3 hrd3 hsrc hb7c hb5c hb2c hW2 HRD HG3
  rcases (show k < 7 ∨ (¬ k < 7 ∧ 9 < k) ∨ (¬ k < 7 ∧ ¬ 9 < k) by omega) with i1 | ⟨i1, i2⟩ | ⟨i1, i2⟩
  all_goals
    go_wp2_with (first
      | (at_builtin
         refine wpList_append_Own _ rfl (.tmp 14) (.tmp 16) _ _ rfl (w1.heap.size + 2) 25 it _ 4 56 Try.underlying23 hi' hy0 hy1 hy2 rfl (.slice (some ⟨w1.heap.size + 2, 0, none⟩) 0 0) 0 [] rfl HO0.out _ N xs rfl HSRC.out (by unfold maxLen; omega) (by omega) (by simp) ?_
         intro v3 w3 hO3 hg3 hat3
         rw [Nat.zero_add, List.nil_append] at hO3
         obtain ⟨A3, c3, rfl⟩ := hO3.sliceForm
         have hne3 : ∀ g, g < w1.heap.size + 2 → some g ≠ (Value.slice (some ⟨w1.heap.size + 2, 0, none⟩) 0 0).ownBlock := fun g hg e => by (simp [Value.ownBlock] at e; omega)
         have h73 := HB7.out.grown hg3 (hne3 _ (by omega))
         have h53 := HB5.out.grown hg3 (hne3 _ (by omega))
         have hb33 := HB2.out.grown hg3 (by simp; omega) (fun j hj => by simp [Value.ownBlock] at hj; omega)
         have hlit3 := Own.lit (base := w1.heap.size + 2) (e := 25) (size := 4) w3 #[.int .i64 3, .string ⟨#[]⟩, .int .i64 d, .slice none 0 0] 1 (by have := hg3.size; simp at this; omega) (by decide) rfl
         have hsrc3 := Src.own (P := Try.prog) (u := 23) (e' := 25) hlit3 Try.underlying23 (by intro v hv; simp at hv; rcases hv with rfl | rfl | rfl | rfl <;> rfl) (by decide)
         have HSRC3 := Lib.hid hsrc3
         have HO3 := Lib.hid hO3
         have HG3 := Lib.hid hg3
         have HAT3 := Lib.hid hat3
         have H73 := Lib.hid h73
         have H53 := Lib.hid h53
         have HB33 := Lib.hid hb33
         clear hO3 hg3 hat3 h73 h53 hb33 hlit3 hsrc3 hne3)
      | (at_builtin
         refine wpList_append_Own _ rfl (.tmp 17) (.tmp 20) _ _ rfl (w1.heap.size + 2) 25 it _ 4 56 Try.underlying23 hi' hy0 hy1 hy2 rfl (.slice A3 N c3) N xs rfl (HO3.out.alloc _) _ 1 [.int .i64 3, .string ⟨#[]⟩, .int .i64 d, .slice none 0 0] rfl HSRC3.out (by unfold maxLen; omega) (by omega) (by have := HG3.out.size; simp at this ⊢; omega) ?_
         intro v4 w4 hO4 hg4 hat4
         obtain ⟨A4, c4, rfl⟩ := hO4.sliceForm
         have hlo4 := HO3.out.lt
         have h74 := (H73.out.alloc (.cells #[.int .i64 3, .string ⟨#[]⟩, .int .i64 d, .slice none 0 0] 25)).grown hg4 (fun e => by have := (hlo4 _ e.symm).1; omega)
         have q3 := h74.cell 3
         have f3 := h74.frozen 3
         have x7 := (show Blk (w4.setCell ⟨w1.heap.size + 1, 3, none⟩ (.slice A4 (N + 1) c4)) (w1.heap.size + 1) 25 #[.int .i64 k, sv s, .int .i64 n, .slice A4 (N + 1) c4] from h74.set_ 3 _).x4
         have x5 := (((H53.out.alloc (.cells #[.int .i64 3, .string ⟨#[]⟩, .int .i64 d, .slice none 0 0] 25)).grown hg4 (fun e => by have := (hlo4 _ e.symm).1; omega)).far (p := ⟨w1.heap.size + 1, 3, none⟩) (by simp) (.slice A4 (N + 1) c4)).x4))
    have hlo4' : ∀ j, (Value.slice A3 N c3).ownBlock = some j → w1.heap.size ≤ j := fun j hj => by have := (hlo4 j hj).1; omega
    have b7f : Blk (w4.setCell ⟨w1.heap.size + 1, 3, none⟩ (.slice A4 (N + 1) c4)) (w1.heap.size + 1) 25 #[.int .i64 k, sv s, .int .i64 n, .slice A4 (N + 1) c4] := h74.set_ 3 _
    have b5f : Blk (w4.setCell ⟨w1.heap.size + 1, 3, none⟩ (.slice A4 (N + 1) c4)) w1.heap.size 25 #[.int .i64 k, sv s, .int .i64 n, .slice E N f] := ((H53.out.alloc _).grown hg4 (fun e => by have := (hlo4 _ e.symm).1; omega)).far (p := ⟨w1.heap.size + 1, 3, none⟩) (by simp) _
    have hbf : Below w1.heap.size w1 (w4.setCell ⟨w1.heap.size + 1, 3, none⟩ (.slice A4 (N + 1) c4)) :=
      below_set ((HB33.out.alloc HB33.out.size _).grown hg4 (by have := HB33.out.size; simp; omega) hlo4') (by omega) 3 _
    have hlt4 : ∀ j, (Value.slice A4 (N + 1) c4).ownBlock = some j → w1.heap.size + 2 ≤ j := fun j hj => (hO4.lt j hj).1
    have hO5 : Own (w4.setCell ⟨w1.heap.size + 1, 3, none⟩ (.slice A4 (N + 1) c4)) (w1.heap.size + 2) 25 4 (.slice A4 (N + 1) c4) (N + 1) (xs ++ [.int .i64 3, .string ⟨#[]⟩, .int .i64 d, .slice none 0 0]) := hO4.far (p := ⟨w1.heap.size + 1, 3, none⟩) (fun e => by have := hlt4 _ e; simp at this) _
    generalize (w4.setCell ⟨w1.heap.size + 1, 3, none⟩ (.slice A4 (N + 1) c4)) = W5 at b7f b5f hbf hO5 ⊢
    have hlx : Liv W5 (.mk k s n l) [.int .i64 k, sv s, .int .i64 n, .slice E N f] := by
      have h := Liv.below (w := w1) (w' := W5) (RV.mono (fun b hb => hb.2) HRV.out) hbf
      rwa [HN.out] at h
    have hll : (l ++ [Rep.mk 3 [] d []]).length = N + 1 := by rw [List.length_append, HN.out]; rfl
    have hly : Liv W5 (.mk k s n (l ++ [.mk 3 [] d []])) [.int .i64 k, sv s, .int .i64 n, .slice A4 (N + 1) c4] := by
      have hf := Own.caps hO5
      have h := RV.mk_ (w := W5) (S := fun b => b < W5.heap.size) (k := k) (n := n) (s := s) (l := l ++ [.mk 3 [] d []]) (A := A4) (c := c4) HK1.out HN1.out HS1.out (by rw [hll]; exact hf.1) hf.2
        (xs := xs ++ [.int .i64 3, .string ⟨#[]⟩, .int .i64 d, .slice none 0 0]) (by rw [hll]; exact RD.of_own hO5 (fun kk hkk => (hO5.lt kk hkk).2))
        (RLs.append (RLs.mono (fun b hb => Nat.lt_of_lt_of_le hb.2 hbf.size) (RLs.keep (fun p hp => hbf.cell hp.2) HRL.out)) (RLs.one (RV.flat_ (s := []) (by unfold fits; omega) (by unfold fits; exact HDB.out) (Nat.zero_le _))))
      rwa [hll] at h
    have HBF := Lib.hid (HB1.out.trans (hbf.mono HB1.out.size))
    have okx := okM_okS 6 _ HOK.out
    have oky := okS_more d HOK.out
    have hlp : l = [] ∨ prt k = true := by have := HOK.out; unfold okM at this; exact this.2.2.2.2.2
    have HKN := Lib.hid (fun w => known17_any w)
    clear hO5 hbf hO4 hg4 hat4 hlo4 h74 q3 f3 x5 x7 hlt4 hlo4' HSRC3 HO3 HG3 HAT3 H73 H53 HB33 HSRC HO0 HB7 HB5 HB2 HWG HRL HRV HOK HB1 hll
    generalize w1.heap.size = G at b7f b5f ⊢
  · have hp' : prt k = false := by unfold prt; exact decide_eq_false (by omega)
    have HAL : Hid (∀ w6, Below W5.heap.size W5 w6 → Calls Try.prog 9 #[.agg #[.int .i64 k, sv s, .int .i64 n, .slice E N f], .agg #[.int .i64 k, sv s, .int .i64 n, .slice A4 (N + 1) c4]] w6 fun e w' => e = .returned (.bool true) ∧ Below w6.heap.size w6 w') := Lib.hid (fun w6 hb => (alike_any (hlx.below hb) (hly.below hb) okx oky).mono (fun e w' h => ⟨h.1.trans (by rw [none_alike _ hp']), h.2⟩))
    clear hlx hly okx oky b5f b7f hp' hlp
    refine (HAL.out _ (Below.refl _ _)).mono ?_
    rintro e w6 ⟨rfl, hb6⟩
    have HB6 := Lib.hid hb6
    clear hb6
    go_wp2_with fail
    refine (HKN.out _).mono ?_
    rintro e w8 ⟨rfl, hb8⟩
    have HB8 := Lib.hid (below_trans HB6.out hb8)
    clear hb8
    go_wp2_with fail
    go_ret
    exact ⟨rfl, HBF.out.trans (HB8.out.mono HBF.out.size)⟩
  · have hp' : prt k = false := by unfold prt; exact decide_eq_false (by omega)
    have HAL : Hid (∀ w6, Below W5.heap.size W5 w6 → Calls Try.prog 9 #[.agg #[.int .i64 k, sv s, .int .i64 n, .slice E N f], .agg #[.int .i64 k, sv s, .int .i64 n, .slice A4 (N + 1) c4]] w6 fun e w' => e = .returned (.bool true) ∧ Below w6.heap.size w6 w') := Lib.hid (fun w6 hb => (alike_any (hlx.below hb) (hly.below hb) okx oky).mono (fun e w' h => ⟨h.1.trans (by rw [none_alike _ hp']), h.2⟩))
    clear hlx hly okx oky b5f b7f hp' hlp
    refine (HAL.out _ (Below.refl _ _)).mono ?_
    rintro e w6 ⟨rfl, hb6⟩
    have HB6 := Lib.hid hb6
    clear hb6
    go_wp2_with fail
    refine (HKN.out _).mono ?_
    rintro e w8 ⟨rfl, hb8⟩
    have HB8 := Lib.hid (below_trans HB6.out hb8)
    clear hb8
    go_wp2_with fail
    go_ret
    exact ⟨rfl, HBF.out.trans (HB8.out.mono HBF.out.size)⟩
  · have hp : prt k = true := by unfold prt; exact decide_eq_true (by omega)
    have HAL : Hid (∀ w6, Below W5.heap.size W5 w6 → Calls Try.prog 9 #[.agg #[.int .i64 k, sv s, .int .i64 n, .slice E N f], .agg #[.int .i64 k, sv s, .int .i64 n, .slice A4 (N + 1) c4]] w6 fun e w' => e = .returned (.bool false) ∧ Below w6.heap.size w6 w') := Lib.hid (fun w6 hb => (alike_any (hlx.below hb) (hly.below hb) okx oky).mono (fun e w' h => ⟨h.1.trans (by rw [more_alike _ hp]), h.2⟩))
    have HSA : Hid (∀ w6, Below W5.heap.size W5 w6 → Calls Try.prog 12 #[.agg #[.int .i64 k, sv s, .int .i64 n, .slice E N f], .agg #[.int .i64 k, sv s, .int .i64 n, .slice A4 (N + 1) c4]] w6 fun e w' => e = .returned (.bool false) ∧ Below w6.heap.size w6 w') := Lib.hid (fun w6 hb => (same_any (hlx.below hb) (hly.below hb)).mono (fun e w' h => ⟨h.1.trans (by rw [more_same _ hp]), h.2⟩))
    have H5 := Lib.hid b5f
    have H7 := Lib.hid b7f
    clear hlx hly okx oky b5f b7f hp hlp
    refine (HAL.out _ (Below.refl _ _)).mono ?_
    rintro e w6 ⟨rfl, hb6⟩
    have HB6 := Lib.hid hb6
    have g5 := H5.out.below hb6 H5.out.lt
    have g7 := H7.out.below hb6 H7.out.lt
    clear hb6
    have j0 := g5.cell 0
    have j1 := g5.cell 1
    have j2 := g5.cell 2
    have j3 := g5.cell 3
    have l0 := g7.cell 0
    have l1 := g7.cell 1
    have l2 := g7.cell 2
    have l3 := g7.cell 3
    clear g5 g7
    go_wp2_with fail
    refine (HSA.out _ HB6.out).mono ?_
    rintro e w7 ⟨rfl, hb7⟩
    have HB7 := Lib.hid (below_trans HB6.out hb7)
    clear hb7 j0 j1 j2 j3 l0 l1 l2 l3
    go_wp2_with fail
    refine (HKN.out _).mono ?_
    rintro e w8 ⟨rfl, hb8⟩
    have HB8 := Lib.hid (below_trans HB7.out hb8)
    clear hb8
    go_wp2_with fail
    go_ret
    exact ⟨rfl, HBF.out.trans (HB8.out.mono HBF.out.size)⟩
end Go.Proofs.Ytnmchplabaoflaa
