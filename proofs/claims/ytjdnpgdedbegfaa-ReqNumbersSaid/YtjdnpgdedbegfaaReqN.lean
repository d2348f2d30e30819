/- The walk of inline. -/
import Derived.Test.YtjdnpgdedbegfaaReqM
import Derived.Outline
namespace Go.Proofs.Ytjdnpgdedbegfaa
open Go.RowKit Go.Shelf
set_option linter.unusedVariables false

theorem indexByte_none {w : World} {g n c : Nat} {a : Addr} {l : List UInt8} {p : Nat} {why : Int} (h : Rest w g n c a l p why) (hp : a = ⟨a.block, a.off, none⟩) (m k : Nat) (hm : n - p = m) (hx : Rq.idx 10 (l.drop p) = none) :
    Calls Try.prog 37 #[.slice (some (la a c p)) m k, .int .u8 10] w fun e w' => e = .returned (.int .i64 (-1)) ∧ w' = w := by
  subst hm
  have hla : la a c p = ⟨(la a c p).block, (la a c p).off, none⟩ := by
    unfold la; split
    · exact hp
    · rw [hp]; unfold Addr.add; split <;> rfl
  refine (indexByte_any h.left (by rw [List.length_drop, h.2.2.1]) hla).mono ?_
  rintro e w' ⟨rfl, rfl⟩
  rw [hx]
  exact ⟨rfl, rfl⟩
theorem indexByte_some {w : World} {g n c : Nat} {a : Addr} {l : List UInt8} {p : Nat} {why : Int} (h : Rest w g n c a l p why) (hp : a = ⟨a.block, a.off, none⟩) (m k : Nat) (hm : n - p = m) {i : Nat} (hx : Rq.idx 10 (l.drop p) = some i) :
    Calls Try.prog 37 #[.slice (some (la a c p)) m k, .int .u8 10] w fun e w' => e = .returned (.int .i64 i) ∧ w' = w := by
  subst hm
  have hla : la a c p = ⟨(la a c p).block, (la a c p).off, none⟩ := by
    unfold la; split
    · exact hp
    · rw [hp]; unfold Addr.add; split <;> rfl
  refine (indexByte_any h.left (by rw [List.length_drop, h.2.2.1]) hla).mono ?_
  rintro e w' ⟨rfl, rfl⟩
  rw [hx]
  exact ⟨rfl, rfl⟩
theorem words_no (s : ByteArray) (w : World) (hl : s.size ≤ 1048576) (h : Rq.words s.data.toList = none) :
    Calls Try.prog 15 #[.string s] w fun e w' => e = .returned (.tuple #[.slice none 0 0, .bool false]) ∧ Below w.heap.size w w' :=
  (words_any s w hl).mono fun e w' ⟨he, hw⟩ => by rw [h] at he; exact ⟨he, hw⟩
theorem words_yes (s : ByteArray) (w : World) (hl : s.size ≤ 1048576) {ws : List (List UInt8)} (h : Rq.words s.data.toList = some ws) :
    Calls Try.prog 15 #[.string s] w fun e w' => ∃ v, e = .returned (.tuple #[v, .bool true]) ∧ Own w' w.heap.size 9 1 v ws.length (ws.map sv) ∧ Below w.heap.size w w' :=
  (words_any s w hl).mono fun e w' ⟨he, hw⟩ => by rw [h] at he; obtain ⟨v, h1, h2⟩ := he; exact ⟨v, h1, h2, hw⟩

set_option maxRecDepth 100000 in
set_option maxHeartbeats 8000000 in
theorem inline_any {g n c : Nat} {a : Addr} {l : List UInt8} {p : Nat} (w : World) (h : Rest w g n c a l p 0) (hp : a = ⟨a.block, a.off, none⟩) (hn : n ≤ 1048576) :
    Calls Try.prog 28 #[.pointer (some ⟨g, 0, none⟩)] w fun e w' => ARet w.heap.size w' e g n c a l (Rq.inl (l.drop p)) ∧ w.grownBy w' (some g) := by
  have hnl : n = l.length := h.2.2.1
  have hpn : p ≤ n := h.2.2.2.2.2
  have hnc : n ≤ c := h.2.2.2.1
  have hg := h.lt
  obtain ⟨m, hm⟩ : ∃ m, n - p = m := ⟨_, rfl⟩
  obtain ⟨k, hk⟩ : ∃ k, c - p = k := ⟨_, rfl⟩
  have hlm := fun w (h : Rest w g n c a l p 0) => left_lm w h m k hm hk
  have hdl : (l.drop p).length = m := by rw [List.length_drop]; omega
  have hmk : m ≤ k := by omega
  rcases hx : Rq.idx 10 (l.drop p) with _ | i
  · have hib := fun w (h : Rest w g n c a l p 0) => indexByte_none h hp m k hm hx
    by_cases hbig : 4096 < m
    · have HN := Lib.hid (show Rq.inl (l.drop p) = none by unfold Rq.inl; rw [hx]; simp only; rw [if_pos (by omega)])
      have hbig' : (4096 : Int) < (m : Int) := by omega
      clear hnl hm hk hdl hp
      go_enter Try.func28, Try.ntmps28
      go_wp2_with fail
      refine (hlm w h).mono ?_
      rintro e w1 ⟨rfl, hb1⟩
      have h1 := h.below hb1
      go_wp2_with fail
      refine (hib w1 h1).mono ?_
      rintro e w2 ⟨rfl, rfl⟩
      go_wp2_with fail
      refine (hlm w2 h1).mono ?_
      rintro e w3 ⟨rfl, hb3⟩
      have h3 := h1.below hb3
      go_wp2_with fail
      refine (wrong_any w3 h3).mono ?_
      rintro e w4 ⟨rfl, rfl⟩
      go_wp2_with fail
      go_ret2
      rw [HN.out]
      exact ⟨⟨⟨_, rfl⟩, _, h3.bad⟩, grown_set (below_trans hb1 hb3) _ _ _⟩
    · have HN := Lib.hid (show Rq.inl (l.drop p) = some none by unfold Rq.inl; rw [hx]; simp only; rw [if_neg (by omega)])
      have hbig' : (m : Int) ≤ 4096 := by omega
      clear hnl hm hk hdl hp
      go_enter Try.func28, Try.ntmps28
      go_wp2_with fail
      refine (hlm w h).mono ?_
      rintro e w1 ⟨rfl, hb1⟩
      have h1 := h.below hb1
      go_wp2_with fail
      refine (hib w1 h1).mono ?_
      rintro e w2 ⟨rfl, rfl⟩
      go_wp2_with fail
      refine (hlm w2 h1).mono ?_
      rintro e w3 ⟨rfl, hb3⟩
      have h3 := h1.below hb3
      go_wp2_with fail
      go_ret2
      rw [HN.out]
      exact ⟨⟨⟨_, rfl⟩, _, h3⟩, grown_of (below_trans hb1 hb3) _⟩
  · have hib := fun w (h : Rest w g n c a l p 0) => indexByte_some h hp m k hm hx
    have hil := Rq.idx_lt hx
    by_cases hbig : 4096 < i
    · have HN := Lib.hid (show Rq.inl (l.drop p) = none by unfold Rq.inl; rw [hx]; simp only; rw [if_pos (by omega)])
      have hbig' : (4096 : Int) < (i : Int) := by omega
      clear hnl hm hk hdl hp
      go_enter Try.func28, Try.ntmps28
      go_wp2_with fail
      refine (hlm w h).mono ?_
      rintro e w1 ⟨rfl, hb1⟩
      have h1 := h.below hb1
      go_wp2_with fail
      refine (hib w1 h1).mono ?_
      rintro e w2 ⟨rfl, rfl⟩
      go_wp2_with fail
      refine (wrong_any w2 h1).mono ?_
      rintro e w4 ⟨rfl, rfl⟩
      have h4 := h1.bad
      have c2 := h4.1.cell 2
      go_wp2_with fail
      go_ret2
      rw [HN.out]
      exact ⟨⟨⟨_, rfl⟩, _, h4⟩, grown_set hb1 _ _ _⟩
    · -- GEN (one way for each: i = 0; a 13 ahead of the line's end; none)
      have hbig' : (i : Int) ≤ 4096 := by omega
      have hinl : ∀ t, Rq.chop ((l.drop p).take i) = t → Rq.inl (l.drop p) = match Rq.words t with
          | none => none
          | some ws => some (some (ws, (l.drop p).drop (i + 1))) := by
        intro t ht; unfold Rq.inl; rw [hx]; simp only; rw [if_neg hbig, ht]; rfl
      have hpos : p + (i + 1) ≤ n := by omega
      have hrl : n - ((l.drop p).drop (i + 1)).length = p + (i + 1) := by rw [List.length_drop, hdl]; omega
      have HR := Lib.hid hrl
      clear hrl
      rcases Nat.eq_zero_or_pos i with hi0 | hi0
      · subst hi0
        have ht : Rq.chop ((l.drop p).take 0) = (l.drop p).take 0 := by simp [Rq.chop]
        have Hl := Lib.hid (show ((l.drop p).take 0).length = 0 by simp)
        rcases hw : Rq.words ((l.drop p).take 0) with _ | ws
        · have HN := Lib.hid (hinl _ ht)
          rw [hw] at HN
          have Hw := Lib.hid (show Rq.words (bs ((l.drop p).take 0)).data.toList = none by rw [bs_data]; exact hw)
          clear hnl hm hk hdl hp hx hil hw ht hinl hbig
          go_enter Try.func28, Try.ntmps28
          go_wp2_with fail
          refine (hlm w h).mono ?_
          rintro e w1 ⟨rfl, hb1⟩
          have h1 := h.below hb1
          go_wp2_with fail
          refine (hib w1 h1).mono ?_
          rintro e w2 ⟨rfl, rfl⟩
          have c2 := h1.1.cell 2
          go_wp2_with fail
          refine (hlm w2 h1).mono ?_
          rintro e w3 ⟨rfl, hb3⟩
          have h3 := h1.below hb3
          have hcv1 := reads_string (cap := k) (h3.left.prefix_ (k := 0) (by omega)) Hl.out.symm Try.underlying30 Try.underlying5 Try.underlying9
          go_wp2_with fail
          refine (words_no _ w3 (by rw [bs_size, Hl.out]; omega) Hw.out).mono ?_
          rintro e w4 ⟨rfl, hb4⟩
          have h4 := h3.below hb4
          go_wp2_with fail
          refine (wrong_any w4 h4).mono ?_
          rintro e w5 ⟨rfl, rfl⟩
          have h5 := h4.bad
          have c1 := h5.1.cell 1
          have f1 := h5.1.frozen 1
          go_wp2_with fail
          go_ret2
          rw [HN.out]
          exact ⟨⟨⟨_, rfl⟩, _, h5.step_ (0 + 1) hpos⟩, (grown_set (below_trans hb1 (below_trans hb3 hb4)) _ _ _).trans (grown_set (Below.refl _ _) _ _ _)⟩
        · have HN := Lib.hid (hinl _ ht)
          rw [hw] at HN
          have Hw := Lib.hid (show Rq.words (bs ((l.drop p).take 0)).data.toList = some ws by rw [bs_data]; exact hw)
          clear hnl hm hk hdl hp hx hil hw ht hinl hbig
          go_enter Try.func28, Try.ntmps28
          go_wp2_with fail
          refine (hlm w h).mono ?_
          rintro e w1 ⟨rfl, hb1⟩
          have h1 := h.below hb1
          go_wp2_with fail
          refine (hib w1 h1).mono ?_
          rintro e w2 ⟨rfl, rfl⟩
          have c2 := h1.1.cell 2
          go_wp2_with fail
          refine (hlm w2 h1).mono ?_
          rintro e w3 ⟨rfl, hb3⟩
          have h3 := h1.below hb3
          have hcv1 := reads_string (cap := k) (h3.left.prefix_ (k := 0) (by omega)) Hl.out.symm Try.underlying30 Try.underlying5 Try.underlying9
          go_wp2_with fail
          refine (words_yes _ w3 (by rw [bs_size, Hl.out]; omega) Hw.out).mono ?_
          rintro e w4 ⟨v, rfl, hO, hb4⟩
          have h4 := h3.below hb4
          have c1 := h4.1.cell 1
          have f1 := h4.1.frozen 1
          go_wp2_with fail
          go_ret2
          rw [HN.out]
          refine ⟨⟨⟨_, rfl, ?_⟩, ?_⟩, grown_set (below_trans hb1 (below_trans hb3 hb4)) _ _ _⟩
          · exact (hO.mono (below_trans hb1 hb3).size).far (fun e => by have := (hO.lt g e).1; have := h3.lt; omega) _
          · rw [HR.out]; exact h4.step_ (0 + 1) hpos
      · obtain ⟨j, rfl⟩ : ∃ j, i = j + 1 := ⟨i - 1, by omega⟩
        replace hib : ∀ w, Rest w g n c a l p 0 → Calls Try.prog 37 #[.slice (some (la a c p)) m k, .int .u8 10] w fun e w' => e = .returned (.int .i64 ((j : Int) + 1)) ∧ w' = w := hib
        replace hbig' : (j : Int) + 1 ≤ 4096 := by omega
        clear hi0
        have hjl : j < (l.drop p).length := by omega
        obtain ⟨v0, hv0⟩ : ∃ v0, (l.drop p)[j] = v0 := ⟨_, rfl⟩
        have htk : (l.drop p).take (j + 1) = (l.drop p).take j ++ [v0] := by rw [List.take_succ_eq_append_getElem hjl, hv0]
        have hcell : ∀ w, Rest w g n c a l p 0 → w.cell? ((la a c p).add j) = some (.int .u8 v0.toNat) := fun w h => by
          have := h.left.byte j (by omega) hjl
          rw [hv0] at this; exact this
        have HC := Lib.hid hcell
        clear hcell
        have hj1 : (0 : Int) < (j : Int) + 1 := by omega
        have hj2 : (j : Int) + 1 ≤ (k : Int) := by omega
        by_cases h13 : v0 = 13
        · subst h13
          have ht : Rq.chop ((l.drop p).take (j + 1)) = (l.drop p).take j := by rw [htk]; simp [Rq.chop]
          have Hl := Lib.hid (show ((l.drop p).take j).length = j by rw [List.length_take]; omega)
          rcases hw : Rq.words ((l.drop p).take j) with _ | ws
          · have HN := Lib.hid (hinl _ ht)
            rw [hw] at HN
            have Hw := Lib.hid (show Rq.words (bs ((l.drop p).take j)).data.toList = none by rw [bs_data]; exact hw)
            clear hnl hm hk hdl hp hx hil hw ht hinl hbig hv0 htk hjl
            go_enter Try.func28, Try.ntmps28
            go_wp2_with fail
            refine (hlm w h).mono ?_
            rintro e w1 ⟨rfl, hb1⟩
            have h1 := h.below hb1
            go_wp2_with fail
            refine (hib w1 h1).mono ?_
            rintro e w2 ⟨rfl, rfl⟩
            have c2 := h1.1.cell 2
            go_wp2_with fail
            refine (hlm w2 h1).mono ?_
            rintro e w3 ⟨rfl, hb3⟩
            have h3 := h1.below hb3
            have hcj := HC.out w3 h3
            have hcv1 := reads_string (cap := k) (h3.left.prefix_ (k := j) (by omega)) Hl.out.symm Try.underlying30 Try.underlying5 Try.underlying9
            go_wp2_with fail
            refine (words_no _ w3 (by rw [bs_size, Hl.out]; omega) Hw.out).mono ?_
            rintro e w4 ⟨rfl, hb4⟩
            have h4 := h3.below hb4
            go_wp2_with fail
            refine (wrong_any w4 h4).mono ?_
            rintro e w5 ⟨rfl, rfl⟩
            have h5 := h4.bad
            have c1 := h5.1.cell 1
            have f1 := h5.1.frozen 1
            go_wp2_with fail
            go_ret2
            rw [HN.out]
            exact ⟨⟨⟨_, rfl⟩, _, h5.step_ ((j + 1) + 1) hpos⟩, (grown_set (below_trans hb1 (below_trans hb3 hb4)) _ _ _).trans (grown_set (Below.refl _ _) _ _ _)⟩
          · have HN := Lib.hid (hinl _ ht)
            rw [hw] at HN
            have Hw := Lib.hid (show Rq.words (bs ((l.drop p).take j)).data.toList = some ws by rw [bs_data]; exact hw)
            clear hnl hm hk hdl hp hx hil hw ht hinl hbig hv0 htk hjl
            go_enter Try.func28, Try.ntmps28
            go_wp2_with fail
            refine (hlm w h).mono ?_
            rintro e w1 ⟨rfl, hb1⟩
            have h1 := h.below hb1
            go_wp2_with fail
            refine (hib w1 h1).mono ?_
            rintro e w2 ⟨rfl, rfl⟩
            have c2 := h1.1.cell 2
            go_wp2_with fail
            refine (hlm w2 h1).mono ?_
            rintro e w3 ⟨rfl, hb3⟩
            have h3 := h1.below hb3
            have hcj := HC.out w3 h3
            have hcv1 := reads_string (cap := k) (h3.left.prefix_ (k := j) (by omega)) Hl.out.symm Try.underlying30 Try.underlying5 Try.underlying9
            go_wp2_with fail
            refine (words_yes _ w3 (by rw [bs_size, Hl.out]; omega) Hw.out).mono ?_
            rintro e w4 ⟨v, rfl, hO, hb4⟩
            have h4 := h3.below hb4
            have c1 := h4.1.cell 1
            have f1 := h4.1.frozen 1
            go_wp2_with fail
            go_ret2
            rw [HN.out]
            refine ⟨⟨⟨_, rfl, ?_⟩, ?_⟩, grown_set (below_trans hb1 (below_trans hb3 hb4)) _ _ _⟩
            · exact (hO.mono (below_trans hb1 hb3).size).far (fun e => by have := (hO.lt g e).1; have := h3.lt; omega) _
            · rw [HR.out]; exact h4.step_ ((j + 1) + 1) hpos
        · have ht : Rq.chop ((l.drop p).take (j + 1)) = (l.drop p).take (j + 1) := by rw [htk]; simp [Rq.chop, h13]
          have Hl := Lib.hid (show ((l.drop p).take (j + 1)).length = j + 1 by rw [List.length_take]; omega)
          have q1 := u8_f (c := v0) 13 rfl h13
          clear h13
          rcases hw : Rq.words ((l.drop p).take (j + 1)) with _ | ws
          · have HN := Lib.hid (hinl _ ht)
            rw [hw] at HN
            have Hw := Lib.hid (show Rq.words (bs ((l.drop p).take (j + 1))).data.toList = none by rw [bs_data]; exact hw)
            clear hnl hm hk hdl hp hx hil hw ht hinl hbig hv0 htk hjl
            go_enter Try.func28, Try.ntmps28
            go_wp2_with fail
            refine (hlm w h).mono ?_
            rintro e w1 ⟨rfl, hb1⟩
            have h1 := h.below hb1
            go_wp2_with fail
            refine (hib w1 h1).mono ?_
            rintro e w2 ⟨rfl, rfl⟩
            have c2 := h1.1.cell 2
            go_wp2_with fail
            refine (hlm w2 h1).mono ?_
            rintro e w3 ⟨rfl, hb3⟩
            have h3 := h1.below hb3
            have hcj := HC.out w3 h3
            have hcv1 := reads_string (cap := k) (h3.left.prefix_ (k := (j + 1)) (by omega)) Hl.out.symm Try.underlying30 Try.underlying5 Try.underlying9
            go_wp2_with fail
            refine (words_no _ w3 (by rw [bs_size, Hl.out]; omega) Hw.out).mono ?_
            rintro e w4 ⟨rfl, hb4⟩
            have h4 := h3.below hb4
            go_wp2_with fail
            refine (wrong_any w4 h4).mono ?_
            rintro e w5 ⟨rfl, rfl⟩
            have h5 := h4.bad
            have c1 := h5.1.cell 1
            have f1 := h5.1.frozen 1
            go_wp2_with fail
            go_ret2
            rw [HN.out]
            exact ⟨⟨⟨_, rfl⟩, _, h5.step_ ((j + 1) + 1) hpos⟩, (grown_set (below_trans hb1 (below_trans hb3 hb4)) _ _ _).trans (grown_set (Below.refl _ _) _ _ _)⟩
          · have HN := Lib.hid (hinl _ ht)
            rw [hw] at HN
            have Hw := Lib.hid (show Rq.words (bs ((l.drop p).take (j + 1))).data.toList = some ws by rw [bs_data]; exact hw)
            clear hnl hm hk hdl hp hx hil hw ht hinl hbig hv0 htk hjl
            go_enter Try.func28, Try.ntmps28
            go_wp2_with fail
            refine (hlm w h).mono ?_
            rintro e w1 ⟨rfl, hb1⟩
            have h1 := h.below hb1
            go_wp2_with fail
            refine (hib w1 h1).mono ?_
            rintro e w2 ⟨rfl, rfl⟩
            have c2 := h1.1.cell 2
            go_wp2_with fail
            refine (hlm w2 h1).mono ?_
            rintro e w3 ⟨rfl, hb3⟩
            have h3 := h1.below hb3
            have hcj := HC.out w3 h3
            have hcv1 := reads_string (cap := k) (h3.left.prefix_ (k := (j + 1)) (by omega)) Hl.out.symm Try.underlying30 Try.underlying5 Try.underlying9
            go_wp2_with fail
            refine (words_yes _ w3 (by rw [bs_size, Hl.out]; omega) Hw.out).mono ?_
            rintro e w4 ⟨v, rfl, hO, hb4⟩
            have h4 := h3.below hb4
            have c1 := h4.1.cell 1
            have f1 := h4.1.frozen 1
            go_wp2_with fail
            go_ret2
            rw [HN.out]
            refine ⟨⟨⟨_, rfl, ?_⟩, ?_⟩, grown_set (below_trans hb1 (below_trans hb3 hb4)) _ _ _⟩
            · exact (hO.mono (below_trans hb1 hb3).size).far (fun e => by have := (hO.lt g e).1; have := h3.lt; omega) _
            · rw [HR.out]; exact h4.step_ ((j + 1) + 1) hpos
end Go.Proofs.Ytjdnpgdedbegfaa
