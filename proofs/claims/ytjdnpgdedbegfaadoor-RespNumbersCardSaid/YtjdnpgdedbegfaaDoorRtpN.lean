/- The walk of the reference's Flat at arrays, maps, sets; at any reply. -/
import Derived.Test.YtjdnpgdedbegfaaDoorRtpM
namespace Go.Proofs.YtjdnpgdedbegfaaDoor
open Go.RowKit Go.Shelf
set_option linter.unusedVariables false

theorem enter_rflat : ∀ args w, (callFunc 26 args).run Tryd.prog w = .ok (.enter 26 args) w :=
  enter_of Tryd.func26 (by kernel_rfl) (by kernel_rfl)
set_option maxRecDepth 100000 in
set_option maxHeartbeats 8000000 in
theorem rflat_parts7 (s : List UInt8) (n : Int) (l : List Rep) (ih : ∀ r ∈ l, RFlatAt r) : RFlatAt (.mk 7 s n l) := by
  intro d w cs hok hr
  obtain ⟨i0, hi, hz0, hz1, hz2⟩ := info_parts repinfo
  obtain ⟨hs20, hl4, hsub⟩ := okF_parts hok
  obtain ⟨A, c, xs, rfl, hk1, hn1, hs1, hlc1, hcm1, hd1, hl1⟩ := hr.fields
  simp only [Rep.k, Rep.s, Rep.n, Rep.l] at *
  have HF := Lib.hid (show Rep.flat (.mk 7 s n l) = .mk 7 [] 0 (Rep.flats l) by rw [flat_mk]; simp)
  obtain ⟨N, hN⟩ : ∃ N, l.length = N := ⟨_, rfl⟩
  have HN := Lib.hid hN
  rw [hN] at hlc1 hl4 hd1 ⊢
  have HD := Lib.hid hd1
  have HL := Lib.hid hl1
  have HSUB := Lib.hid hsub
  have hc1 : c ≤ 9223372036854775807 := by unfold maxLen at hcm1; omega
  have HX0 := Lib.hid (show Below w.heap.size w (((w.alloc (.cells #[.int .i64 7, sv s, .int .i64 n, .slice A N c] 27)).alloc (.cells #[.int .i64 0, .string ⟨#[]⟩, .int .i64 0, .slice none 0 0] 27)).alloc (.cells #[.int .i64 7, .string ⟨#[]⟩, .int .i64 0, .slice none 0 0] 27)) from (((Below.refl _ _).alloc (Nat.le_refl _) _).alloc (by simp) _).alloc (by simp; omega) _)
  have HX1 := Lib.hid (show Blk (((w.alloc (.cells #[.int .i64 7, sv s, .int .i64 n, .slice A N c] 27)).alloc (.cells #[.int .i64 0, .string ⟨#[]⟩, .int .i64 0, .slice none 0 0] 27)).alloc (.cells #[.int .i64 7, .string ⟨#[]⟩, .int .i64 0, .slice none 0 0] 27)) w.heap.size 27 #[.int .i64 7, sv s, .int .i64 n, .slice A N c] from ((Blk.new w _ _).alloc _).alloc _)
  have hx2 : Blk (((w.alloc (.cells #[.int .i64 7, sv s, .int .i64 n, .slice A N c] 27)).alloc (.cells #[.int .i64 0, .string ⟨#[]⟩, .int .i64 0, .slice none 0 0] 27)).alloc (.cells #[.int .i64 7, .string ⟨#[]⟩, .int .i64 0, .slice none 0 0] 27)) (w.heap.size + 1) 27 #[.int .i64 0, .string ⟨#[]⟩, .int .i64 0, .slice none 0 0] := by
    have := Blk.new (w.alloc (.cells #[.int .i64 7, sv s, .int .i64 n, .slice A N c] 27)) 27 #[.int .i64 0, .string ⟨#[]⟩, .int .i64 0, .slice none 0 0]
    rw [World.alloc_size] at this
    exact this.alloc _
  have hx3 : Blk (((w.alloc (.cells #[.int .i64 7, sv s, .int .i64 n, .slice A N c] 27)).alloc (.cells #[.int .i64 0, .string ⟨#[]⟩, .int .i64 0, .slice none 0 0] 27)).alloc (.cells #[.int .i64 7, .string ⟨#[]⟩, .int .i64 0, .slice none 0 0] 27)) (w.heap.size + 2) 27 #[.int .i64 7, .string ⟨#[]⟩, .int .i64 0, .slice none 0 0] := by
    have := Blk.new ((w.alloc (.cells #[.int .i64 7, sv s, .int .i64 n, .slice A N c] 27)).alloc (.cells #[.int .i64 0, .string ⟨#[]⟩, .int .i64 0, .slice none 0 0] 27)) 27 #[.int .i64 7, .string ⟨#[]⟩, .int .i64 0, .slice none 0 0]
    rw [World.alloc_size, World.alloc_size] at this
    exact this
  have HX2 := Lib.hid hx2
  have HX3 := Lib.hid hx3
  have HZS := Lib.hid (show ((((w.alloc (.cells #[.int .i64 7, sv s, .int .i64 n, .slice A N c] 27)).alloc (.cells #[.int .i64 0, .string ⟨#[]⟩, .int .i64 0, .slice none 0 0] 27)).alloc (.cells #[.int .i64 7, .string ⟨#[]⟩, .int .i64 0, .slice none 0 0] 27))).heap.size = w.heap.size + 3 by rw [World.alloc_size, World.alloc_size, World.alloc_size])
  clear hok hd1 hl1 hN hr hx2 hx3 hs20 hsub
  go_enter Tryd.func26, Tryd.ntmps26
  go_wp2_with fail
  obtain ⟨G, hGe⟩ : ∃ G, w.heap.size + 2 = G := ⟨_, rfl⟩
  have hG : w.heap.size + 2 ≤ G := by omega
  rw [hGe] at HX3
  have HZ2 := Lib.hid (HZS.out.trans (show w.heap.size + 3 = G + 1 by omega))
  try rw [hGe]
  clear hGe
  go_loopw [4] (fun x wr => ∃ i v, i ≤ N ∧ x = .int .i64 (i : Nat) ∧ Blk wr w.heap.size 27 #[.int .i64 7, sv s, .int .i64 n, .slice A N c] ∧ Blk wr (w.heap.size + 1) 27 #[.int .i64 0, .string ⟨#[]⟩, .int .i64 0, .slice none 0 0] ∧ Blk wr G 27 #[.int .i64 7, .string ⟨#[]⟩, .int .i64 0, v] ∧ OR wr (G + 1) v ((Rep.flats l).take i) ∧ Below w.heap.size w wr ∧ G + 1 ≤ wr.heap.size) (fun x _ => N - (intOf x).toNat)
  case atStart => exact ⟨0, _, Nat.zero_le _, rfl, HX1.out, HX2.out, HX3.out, by rw [List.take_zero]; exact OR.nil _ _, HX0.out, by rw [HZ2.out]; omega⟩
  case round =>
    obtain ⟨i, v, him, rfl, hB1, hB2, hB3, hO, hbel, hsz⟩ := hrel
    rcases Nat.lt_or_ge i N with hlt | hge
    · obtain ⟨a1, r1, E1, f1, rfl, hSa1, hr1, hv1, p0, p1, p2, p3⟩ := (HD.out.keep (fun p hp => hbel.cell hp)).at_ (HL.out.keep (fun p hp => hbel.cell hp)) HN.out hlt
      have hlt' : (i : Int) < (N : Int) := by omega
      have hmem1 := List.mem_of_getElem? hr1
      obtain ⟨e, rfl, hoe⟩ := HSUB.out r1 hmem1
      have HT := Lib.hid (flats_take_succ l i hr1)
      have HTl := Lib.hid (show ((Rep.flats l).take i).length = i by rw [List.length_take, flats_len, HN.out]; omega)
      obtain ⟨acc, hacc⟩ : ∃ acc, (Rep.flats l).take i = acc := ⟨_, rfl⟩
      rw [hacc] at hO HT HTl
      obtain ⟨xs1, hown, hrl⟩ := hO
      rw [HTl.out] at hown
      obtain ⟨Av, cv, rfl⟩ := hown.sliceForm
      have HC := Lib.hid (ih r1 hmem1 e wr.drew [.int .i64 r1.k, sv r1.s, .int .i64 r1.n, .slice E1 r1.l.length f1] hoe
        (RV.drew_ (w := wr) (RV.mono (fun b hb => Nat.lt_of_lt_of_le hb hbel.size) hv1)))
      have c3 := hB3.cell 3
      have m3 := hB1.cell 3
      clear hacc hv1 hr1 hmem1 hoe
      have HB1o := Lib.hid hB1
      have HB2o := Lib.hid hB2
      have hgo : ∀ kk, (Value.slice Av i cv).ownBlock = some kk → G + 1 ≤ kk := fun kk hkk => (hown.lt kk hkk).1
      clear hB1 hB2
      go_wp2_with fail
      go_region_law (first
          | (refine step_call (by rfl) 26 #[.tmp 44] _ (by rfl) _ HC.out (by simp [Act.eval]) enter_rflat ?_; rintro e w1 ⟨⟨E2, f2, rfl, hv⟩, hb2⟩; refine ⟨_, rfl, ?_⟩; have hbx : Below wr.heap.size wr w1 := below_trans (Below.refl wr.heap.size wr).drew hb2; have hB3' := hB3.below hbx hB3.lt; have hown1 := hown.below_ hbx; have c3' := (hB3'.alloc (.cells #[.int .i64 r1.flat.k, sv r1.flat.s, .int .i64 r1.flat.n, .slice E2 r1.flat.l.length f2] 27)).cell 3; have c3'' := hB3'.cell 3; have hsz1 : G + 1 ≤ w1.heap.size := Nat.le_trans hsz hbx.size; have hlit : Own (w1.alloc (.cells #[.int .i64 r1.flat.k, sv r1.flat.s, .int .i64 r1.flat.n, .slice E2 r1.flat.l.length f2] 27)) (G + 1) 27 4 (.slice (some ⟨w1.heap.size, 0, none⟩) 1 1) 1 [.int .i64 r1.flat.k, sv r1.flat.s, .int .i64 r1.flat.n, .slice E2 r1.flat.l.length f2] := Own.lit (base := G + 1) (e := 27) (size := 4) w1 #[.int .i64 r1.flat.k, sv r1.flat.s, .int .i64 r1.flat.n, .slice E2 r1.flat.l.length f2] 1 hsz1 (by decide) rfl; have HB12 := Lib.hid (hB3'.alloc (.cells #[.int .i64 r1.flat.k, sv r1.flat.s, .int .i64 r1.flat.n, .slice E2 r1.flat.l.length f2] 27)); have hone : ∀ v ∈ ([.int .i64 r1.flat.k, sv r1.flat.s, .int .i64 r1.flat.n, .slice E2 r1.flat.l.length f2] : List Value), v.oneCell' = true := (by intro v hv; simp at hv; rcases hv with rfl | rfl | rfl | rfl <;> rfl))
          | (refine (step_append_Own _ (by rfl) (.tmp 39) (.tmp 46) _ _ (by rfl) (G + 1) 27 i0 _ 4 56 Tryd.underlying25 hi hz0 hz1 hz2 rfl (.slice Av i cv) i xs1 (by rfl) (hown1.alloc _) _ 1 [.int .i64 r1.flat.k, sv r1.flat.s, .int .i64 r1.flat.n, .slice E2 r1.flat.l.length f2] (by rfl) (Src.own hlit Tryd.underlying25 hone (by decide)) (by unfold maxLen; omega) (by omega) (by simp; omega) ?_); intro v4 w4 hO4 hg4 hat; obtain ⟨A4, c4, rfl⟩ := hO4.sliceForm; have hB13 := HB12.out.grown hg4 (fun e => by have := hgo _ e.symm; omega); have j3 := hB13.cell 3; have z3 := hB13.frozen 3))
      all_goals
        have hrl4 := RLs.push hsz hown hrl hbx (RV.mono (fun b hb => ⟨hb.1, hb.2⟩) hv) ((Below.refl w1.heap.size w1).alloc (Nat.le_refl _) (.cells #[.int .i64 r1.flat.k, sv r1.flat.s, .int .i64 r1.flat.n, .slice E2 r1.flat.l.length f2] 27)) hg4 (by simpa using hat)
        have hO5 : OR (w4.setCell ⟨G, 3, none⟩ (.slice A4 (i + 1) c4)) (G + 1) (.slice A4 (i + 1) c4) ((Rep.flats l).take (i + 1)) := by
          have h4 : OR w4 (G + 1) (.slice A4 (i + 1) c4) ((Rep.flats l).take (i + 1)) :=
            ⟨xs1 ++ [.int .i64 r1.flat.k, sv r1.flat.s, .int .i64 r1.flat.n, .slice E2 r1.flat.l.length f2], by rw [HT.out, List.length_append, HTl.out]; exact hO4, by rw [HT.out]; exact hrl4⟩
          exact h4.far (by omega) 3 _
        have hB15 : Blk (w4.setCell ⟨G, 3, none⟩ (.slice A4 (i + 1) c4)) w.heap.size 27 #[.int .i64 7, sv s, .int .i64 n, .slice (some a1) N c] := (((HB1o.out.below hbx HB1o.out.lt).alloc _).grown hg4 (fun e => by have := hgo _ e.symm; omega)).far (by simp; omega) _
        have hB25 : Blk (w4.setCell ⟨G, 3, none⟩ (.slice A4 (i + 1) c4)) (w.heap.size + 1) 27 #[.int .i64 0, .string ⟨#[]⟩, .int .i64 0, .slice none 0 0] := (((HB2o.out.below hbx HB2o.out.lt).alloc _).grown hg4 (fun e => by have := hgo _ e.symm; omega)).far (by simp; omega) _
        have hB35 : Blk (w4.setCell ⟨G, 3, none⟩ (.slice A4 (i + 1) c4)) G 27 #[.int .i64 7, .string ⟨#[]⟩, .int .i64 0, .slice A4 (i + 1) c4] := hB13.set_ 3 _
        have hbf : Below w.heap.size w (w4.setCell ⟨G, 3, none⟩ (.slice A4 (i + 1) c4)) :=
          below_set (((hbel.trans (hbx.mono hbel.size)).alloc (Nat.le_trans hbel.size hbx.size) _).grown hg4 (by have := hbel.size; have := hbx.size; simp; omega) (fun k hk => by have := hgo k hk; omega)) (by omega) 3 _
        have hszf : G + 1 ≤ (w4.setCell ⟨G, 3, none⟩ (.slice A4 (i + 1) c4)).heap.size := by
          rw [World.setCell_size]; have := hg4.size; simp at this; omega
        have HH := Lib.hid (And.intro hB15 (And.intro hB25 (And.intro hB35 (And.intro hO5 (And.intro hbf hszf)))))
        clear hB15 hB25 hB35 hO5 hbf hszf hrl4
        go_wp2_with fail
        go_roundw
        case rel =>
          first
            | exact ⟨i + 1, _, by omega, by go_num, HH.out.1, HH.out.2.1, HH.out.2.2.1, HH.out.2.2.2.1, HH.out.2.2.2.2.1, HH.out.2.2.2.2.2⟩
            | ((repeat apply Exists.intro); exact ⟨⟨i + 1, _, by omega, by go_num, HH.out.1, HH.out.2.1, HH.out.2.2.1, HH.out.2.2.2.1, HH.out.2.2.2.2.1, HH.out.2.2.2.2.2⟩, rfl⟩)
        case measure => simp [intOf]; omega
    · have hiN : i = N := by omega
      subst hiN
      have hfull : (Rep.flats l).take i = Rep.flats l := List.take_of_length_le (by rw [flats_len, HN.out]; exact Nat.le_refl _)
      rw [hfull] at hO
      have HLF := Lib.hid (show (Rep.flats l).length = i by rw [flats_len, HN.out])
      clear hfull
      obtain ⟨Av, cv, rfl⟩ := hO.form
      rw [HLF.out] at hB3 hO
      have hi1 : ¬ (i : Int) < (i : Int) := by omega
      have m3 := hB1.cell 3
      have HOF := Lib.hid hO
      have HBF := Lib.hid hbel
      have x2 := hB2.x4
      have z0 := hB2.frozen 0
      have z1 := hB2.frozen 1
      have z2 := hB2.frozen 2
      have z3 := hB2.frozen 3
      have x3 := hB3.x4
      clear hO hbel
      go_wp2_with fail
      refine bodyPost_ret (ret_cell1 rfl _ _ (w.heap.size + 1) _ _ _ _ _ rfl (hB2.put4 _ _ _ _)) rfl ?_
      rw [HF.out]
      have hOp := HOF.out.put4 (g := w.heap.size + 1) (by omega) (.int .i64 7) (.string ⟨#[]⟩) (.int .i64 0) (.slice Av i cv)
      have hrv := OR.rv (k := 7) (n := 0) (s := []) (S := New w (put4 wr (w.heap.size + 1) (.int .i64 7) (.string ⟨#[]⟩) (.int .i64 0) (.slice Av i cv))) hOp (by unfold fits; omega) (by unfold fits; omega) (Nat.zero_le _) HLF.out.symm (fun b h1 h2 => ⟨by omega, h2⟩)
      refine ⟨⟨_, _, ?_, hrv⟩, put4_below HBF.out _ (by omega) _ _ _ _⟩
      show Ending.returned (.agg #[.int .i64 7, .string ⟨#[]⟩, .int .i64 0, (.slice Av i cv)]) = _
      congr 2
      first | rfl | (simp only [Rep.l, HLF.out]; rfl)
set_option maxRecDepth 100000 in
set_option maxHeartbeats 8000000 in
theorem rflat_parts8 (s : List UInt8) (n : Int) (l : List Rep) (ih : ∀ r ∈ l, RFlatAt r) : RFlatAt (.mk 8 s n l) := by
  intro d w cs hok hr
  obtain ⟨i0, hi, hz0, hz1, hz2⟩ := info_parts repinfo
  obtain ⟨hs20, hl4, hsub⟩ := okF_parts hok
  obtain ⟨A, c, xs, rfl, hk1, hn1, hs1, hlc1, hcm1, hd1, hl1⟩ := hr.fields
  simp only [Rep.k, Rep.s, Rep.n, Rep.l] at *
  have HF := Lib.hid (show Rep.flat (.mk 8 s n l) = .mk 7 [] 0 (Rep.flats l) by rw [flat_mk]; simp)
  obtain ⟨N, hN⟩ : ∃ N, l.length = N := ⟨_, rfl⟩
  have HN := Lib.hid hN
  rw [hN] at hlc1 hl4 hd1 ⊢
  have HD := Lib.hid hd1
  have HL := Lib.hid hl1
  have HSUB := Lib.hid hsub
  have hc1 : c ≤ 9223372036854775807 := by unfold maxLen at hcm1; omega
  have HX0 := Lib.hid (show Below w.heap.size w (((w.alloc (.cells #[.int .i64 8, sv s, .int .i64 n, .slice A N c] 27)).alloc (.cells #[.int .i64 0, .string ⟨#[]⟩, .int .i64 0, .slice none 0 0] 27)).alloc (.cells #[.int .i64 7, .string ⟨#[]⟩, .int .i64 0, .slice none 0 0] 27)) from (((Below.refl _ _).alloc (Nat.le_refl _) _).alloc (by simp) _).alloc (by simp; omega) _)
  have HX1 := Lib.hid (show Blk (((w.alloc (.cells #[.int .i64 8, sv s, .int .i64 n, .slice A N c] 27)).alloc (.cells #[.int .i64 0, .string ⟨#[]⟩, .int .i64 0, .slice none 0 0] 27)).alloc (.cells #[.int .i64 7, .string ⟨#[]⟩, .int .i64 0, .slice none 0 0] 27)) w.heap.size 27 #[.int .i64 8, sv s, .int .i64 n, .slice A N c] from ((Blk.new w _ _).alloc _).alloc _)
  have hx2 : Blk (((w.alloc (.cells #[.int .i64 8, sv s, .int .i64 n, .slice A N c] 27)).alloc (.cells #[.int .i64 0, .string ⟨#[]⟩, .int .i64 0, .slice none 0 0] 27)).alloc (.cells #[.int .i64 7, .string ⟨#[]⟩, .int .i64 0, .slice none 0 0] 27)) (w.heap.size + 1) 27 #[.int .i64 0, .string ⟨#[]⟩, .int .i64 0, .slice none 0 0] := by
    have := Blk.new (w.alloc (.cells #[.int .i64 8, sv s, .int .i64 n, .slice A N c] 27)) 27 #[.int .i64 0, .string ⟨#[]⟩, .int .i64 0, .slice none 0 0]
    rw [World.alloc_size] at this
    exact this.alloc _
  have hx3 : Blk (((w.alloc (.cells #[.int .i64 8, sv s, .int .i64 n, .slice A N c] 27)).alloc (.cells #[.int .i64 0, .string ⟨#[]⟩, .int .i64 0, .slice none 0 0] 27)).alloc (.cells #[.int .i64 7, .string ⟨#[]⟩, .int .i64 0, .slice none 0 0] 27)) (w.heap.size + 2) 27 #[.int .i64 7, .string ⟨#[]⟩, .int .i64 0, .slice none 0 0] := by
    have := Blk.new ((w.alloc (.cells #[.int .i64 8, sv s, .int .i64 n, .slice A N c] 27)).alloc (.cells #[.int .i64 0, .string ⟨#[]⟩, .int .i64 0, .slice none 0 0] 27)) 27 #[.int .i64 7, .string ⟨#[]⟩, .int .i64 0, .slice none 0 0]
    rw [World.alloc_size, World.alloc_size] at this
    exact this
  have HX2 := Lib.hid hx2
  have HX3 := Lib.hid hx3
  have HZS := Lib.hid (show ((((w.alloc (.cells #[.int .i64 8, sv s, .int .i64 n, .slice A N c] 27)).alloc (.cells #[.int .i64 0, .string ⟨#[]⟩, .int .i64 0, .slice none 0 0] 27)).alloc (.cells #[.int .i64 7, .string ⟨#[]⟩, .int .i64 0, .slice none 0 0] 27))).heap.size = w.heap.size + 3 by rw [World.alloc_size, World.alloc_size, World.alloc_size])
  clear hok hd1 hl1 hN hr hx2 hx3 hs20 hsub
  go_enter Tryd.func26, Tryd.ntmps26
  go_wp2_with fail
  obtain ⟨G, hGe⟩ : ∃ G, w.heap.size + 2 = G := ⟨_, rfl⟩
  have hG : w.heap.size + 2 ≤ G := by omega
  rw [hGe] at HX3
  have HZ2 := Lib.hid (HZS.out.trans (show w.heap.size + 3 = G + 1 by omega))
  try rw [hGe]
  clear hGe
  go_loopw [4] (fun x wr => ∃ i v, i ≤ N ∧ x = .int .i64 (i : Nat) ∧ Blk wr w.heap.size 27 #[.int .i64 8, sv s, .int .i64 n, .slice A N c] ∧ Blk wr (w.heap.size + 1) 27 #[.int .i64 0, .string ⟨#[]⟩, .int .i64 0, .slice none 0 0] ∧ Blk wr G 27 #[.int .i64 7, .string ⟨#[]⟩, .int .i64 0, v] ∧ OR wr (G + 1) v ((Rep.flats l).take i) ∧ Below w.heap.size w wr ∧ G + 1 ≤ wr.heap.size) (fun x _ => N - (intOf x).toNat)
  case atStart => exact ⟨0, _, Nat.zero_le _, rfl, HX1.out, HX2.out, HX3.out, by rw [List.take_zero]; exact OR.nil _ _, HX0.out, by rw [HZ2.out]; omega⟩
  case round =>
    obtain ⟨i, v, him, rfl, hB1, hB2, hB3, hO, hbel, hsz⟩ := hrel
    rcases Nat.lt_or_ge i N with hlt | hge
    · obtain ⟨a1, r1, E1, f1, rfl, hSa1, hr1, hv1, p0, p1, p2, p3⟩ := (HD.out.keep (fun p hp => hbel.cell hp)).at_ (HL.out.keep (fun p hp => hbel.cell hp)) HN.out hlt
      have hlt' : (i : Int) < (N : Int) := by omega
      have hmem1 := List.mem_of_getElem? hr1
      obtain ⟨e, rfl, hoe⟩ := HSUB.out r1 hmem1
      have HT := Lib.hid (flats_take_succ l i hr1)
      have HTl := Lib.hid (show ((Rep.flats l).take i).length = i by rw [List.length_take, flats_len, HN.out]; omega)
      obtain ⟨acc, hacc⟩ : ∃ acc, (Rep.flats l).take i = acc := ⟨_, rfl⟩
      rw [hacc] at hO HT HTl
      obtain ⟨xs1, hown, hrl⟩ := hO
      rw [HTl.out] at hown
      obtain ⟨Av, cv, rfl⟩ := hown.sliceForm
      have HC := Lib.hid (ih r1 hmem1 e wr.drew [.int .i64 r1.k, sv r1.s, .int .i64 r1.n, .slice E1 r1.l.length f1] hoe
        (RV.drew_ (w := wr) (RV.mono (fun b hb => Nat.lt_of_lt_of_le hb hbel.size) hv1)))
      have c3 := hB3.cell 3
      have m3 := hB1.cell 3
      clear hacc hv1 hr1 hmem1 hoe
      have HB1o := Lib.hid hB1
      have HB2o := Lib.hid hB2
      have hgo : ∀ kk, (Value.slice Av i cv).ownBlock = some kk → G + 1 ≤ kk := fun kk hkk => (hown.lt kk hkk).1
      clear hB1 hB2
      go_wp2_with fail
      go_region_law (first
          | (refine step_call (by rfl) 26 #[.tmp 44] _ (by rfl) _ HC.out (by simp [Act.eval]) enter_rflat ?_; rintro e w1 ⟨⟨E2, f2, rfl, hv⟩, hb2⟩; refine ⟨_, rfl, ?_⟩; have hbx : Below wr.heap.size wr w1 := below_trans (Below.refl wr.heap.size wr).drew hb2; have hB3' := hB3.below hbx hB3.lt; have hown1 := hown.below_ hbx; have c3' := (hB3'.alloc (.cells #[.int .i64 r1.flat.k, sv r1.flat.s, .int .i64 r1.flat.n, .slice E2 r1.flat.l.length f2] 27)).cell 3; have c3'' := hB3'.cell 3; have hsz1 : G + 1 ≤ w1.heap.size := Nat.le_trans hsz hbx.size; have hlit : Own (w1.alloc (.cells #[.int .i64 r1.flat.k, sv r1.flat.s, .int .i64 r1.flat.n, .slice E2 r1.flat.l.length f2] 27)) (G + 1) 27 4 (.slice (some ⟨w1.heap.size, 0, none⟩) 1 1) 1 [.int .i64 r1.flat.k, sv r1.flat.s, .int .i64 r1.flat.n, .slice E2 r1.flat.l.length f2] := Own.lit (base := G + 1) (e := 27) (size := 4) w1 #[.int .i64 r1.flat.k, sv r1.flat.s, .int .i64 r1.flat.n, .slice E2 r1.flat.l.length f2] 1 hsz1 (by decide) rfl; have HB12 := Lib.hid (hB3'.alloc (.cells #[.int .i64 r1.flat.k, sv r1.flat.s, .int .i64 r1.flat.n, .slice E2 r1.flat.l.length f2] 27)); have hone : ∀ v ∈ ([.int .i64 r1.flat.k, sv r1.flat.s, .int .i64 r1.flat.n, .slice E2 r1.flat.l.length f2] : List Value), v.oneCell' = true := (by intro v hv; simp at hv; rcases hv with rfl | rfl | rfl | rfl <;> rfl))
          | (refine (step_append_Own _ (by rfl) (.tmp 39) (.tmp 46) _ _ (by rfl) (G + 1) 27 i0 _ 4 56 Tryd.underlying25 hi hz0 hz1 hz2 rfl (.slice Av i cv) i xs1 (by rfl) (hown1.alloc _) _ 1 [.int .i64 r1.flat.k, sv r1.flat.s, .int .i64 r1.flat.n, .slice E2 r1.flat.l.length f2] (by rfl) (Src.own hlit Tryd.underlying25 hone (by decide)) (by unfold maxLen; omega) (by omega) (by simp; omega) ?_); intro v4 w4 hO4 hg4 hat; obtain ⟨A4, c4, rfl⟩ := hO4.sliceForm; have hB13 := HB12.out.grown hg4 (fun e => by have := hgo _ e.symm; omega); have j3 := hB13.cell 3; have z3 := hB13.frozen 3))
      all_goals
        have hrl4 := RLs.push hsz hown hrl hbx (RV.mono (fun b hb => ⟨hb.1, hb.2⟩) hv) ((Below.refl w1.heap.size w1).alloc (Nat.le_refl _) (.cells #[.int .i64 r1.flat.k, sv r1.flat.s, .int .i64 r1.flat.n, .slice E2 r1.flat.l.length f2] 27)) hg4 (by simpa using hat)
        have hO5 : OR (w4.setCell ⟨G, 3, none⟩ (.slice A4 (i + 1) c4)) (G + 1) (.slice A4 (i + 1) c4) ((Rep.flats l).take (i + 1)) := by
          have h4 : OR w4 (G + 1) (.slice A4 (i + 1) c4) ((Rep.flats l).take (i + 1)) :=
            ⟨xs1 ++ [.int .i64 r1.flat.k, sv r1.flat.s, .int .i64 r1.flat.n, .slice E2 r1.flat.l.length f2], by rw [HT.out, List.length_append, HTl.out]; exact hO4, by rw [HT.out]; exact hrl4⟩
          exact h4.far (by omega) 3 _
        have hB15 : Blk (w4.setCell ⟨G, 3, none⟩ (.slice A4 (i + 1) c4)) w.heap.size 27 #[.int .i64 8, sv s, .int .i64 n, .slice (some a1) N c] := (((HB1o.out.below hbx HB1o.out.lt).alloc _).grown hg4 (fun e => by have := hgo _ e.symm; omega)).far (by simp; omega) _
        have hB25 : Blk (w4.setCell ⟨G, 3, none⟩ (.slice A4 (i + 1) c4)) (w.heap.size + 1) 27 #[.int .i64 0, .string ⟨#[]⟩, .int .i64 0, .slice none 0 0] := (((HB2o.out.below hbx HB2o.out.lt).alloc _).grown hg4 (fun e => by have := hgo _ e.symm; omega)).far (by simp; omega) _
        have hB35 : Blk (w4.setCell ⟨G, 3, none⟩ (.slice A4 (i + 1) c4)) G 27 #[.int .i64 7, .string ⟨#[]⟩, .int .i64 0, .slice A4 (i + 1) c4] := hB13.set_ 3 _
        have hbf : Below w.heap.size w (w4.setCell ⟨G, 3, none⟩ (.slice A4 (i + 1) c4)) :=
          below_set (((hbel.trans (hbx.mono hbel.size)).alloc (Nat.le_trans hbel.size hbx.size) _).grown hg4 (by have := hbel.size; have := hbx.size; simp; omega) (fun k hk => by have := hgo k hk; omega)) (by omega) 3 _
        have hszf : G + 1 ≤ (w4.setCell ⟨G, 3, none⟩ (.slice A4 (i + 1) c4)).heap.size := by
          rw [World.setCell_size]; have := hg4.size; simp at this; omega
        have HH := Lib.hid (And.intro hB15 (And.intro hB25 (And.intro hB35 (And.intro hO5 (And.intro hbf hszf)))))
        clear hB15 hB25 hB35 hO5 hbf hszf hrl4
        go_wp2_with fail
        go_roundw
        case rel =>
          first
            | exact ⟨i + 1, _, by omega, by go_num, HH.out.1, HH.out.2.1, HH.out.2.2.1, HH.out.2.2.2.1, HH.out.2.2.2.2.1, HH.out.2.2.2.2.2⟩
            | ((repeat apply Exists.intro); exact ⟨⟨i + 1, _, by omega, by go_num, HH.out.1, HH.out.2.1, HH.out.2.2.1, HH.out.2.2.2.1, HH.out.2.2.2.2.1, HH.out.2.2.2.2.2⟩, rfl⟩)
        case measure => simp [intOf]; omega
    · have hiN : i = N := by omega
      subst hiN
      have hfull : (Rep.flats l).take i = Rep.flats l := List.take_of_length_le (by rw [flats_len, HN.out]; exact Nat.le_refl _)
      rw [hfull] at hO
      have HLF := Lib.hid (show (Rep.flats l).length = i by rw [flats_len, HN.out])
      clear hfull
      obtain ⟨Av, cv, rfl⟩ := hO.form
      rw [HLF.out] at hB3 hO
      have hi1 : ¬ (i : Int) < (i : Int) := by omega
      have m3 := hB1.cell 3
      have HOF := Lib.hid hO
      have HBF := Lib.hid hbel
      have x2 := hB2.x4
      have z0 := hB2.frozen 0
      have z1 := hB2.frozen 1
      have z2 := hB2.frozen 2
      have z3 := hB2.frozen 3
      have x3 := hB3.x4
      clear hO hbel
      go_wp2_with fail
      refine bodyPost_ret (ret_cell1 rfl _ _ (w.heap.size + 1) _ _ _ _ _ rfl (hB2.put4 _ _ _ _)) rfl ?_
      rw [HF.out]
      have hOp := HOF.out.put4 (g := w.heap.size + 1) (by omega) (.int .i64 7) (.string ⟨#[]⟩) (.int .i64 0) (.slice Av i cv)
      have hrv := OR.rv (k := 7) (n := 0) (s := []) (S := New w (put4 wr (w.heap.size + 1) (.int .i64 7) (.string ⟨#[]⟩) (.int .i64 0) (.slice Av i cv))) hOp (by unfold fits; omega) (by unfold fits; omega) (Nat.zero_le _) HLF.out.symm (fun b h1 h2 => ⟨by omega, h2⟩)
      refine ⟨⟨_, _, ?_, hrv⟩, put4_below HBF.out _ (by omega) _ _ _ _⟩
      show Ending.returned (.agg #[.int .i64 7, .string ⟨#[]⟩, .int .i64 0, (.slice Av i cv)]) = _
      congr 2
      first | rfl | (simp only [Rep.l, HLF.out]; rfl)
set_option maxRecDepth 100000 in
set_option maxHeartbeats 8000000 in
theorem rflat_parts9 (s : List UInt8) (n : Int) (l : List Rep) (ih : ∀ r ∈ l, RFlatAt r) : RFlatAt (.mk 9 s n l) := by
  intro d w cs hok hr
  obtain ⟨i0, hi, hz0, hz1, hz2⟩ := info_parts repinfo
  obtain ⟨hs20, hl4, hsub⟩ := okF_parts hok
  obtain ⟨A, c, xs, rfl, hk1, hn1, hs1, hlc1, hcm1, hd1, hl1⟩ := hr.fields
  simp only [Rep.k, Rep.s, Rep.n, Rep.l] at *
  have HF := Lib.hid (show Rep.flat (.mk 9 s n l) = .mk 7 [] 0 (Rep.flats l) by rw [flat_mk]; simp)
  obtain ⟨N, hN⟩ : ∃ N, l.length = N := ⟨_, rfl⟩
  have HN := Lib.hid hN
  rw [hN] at hlc1 hl4 hd1 ⊢
  have HD := Lib.hid hd1
  have HL := Lib.hid hl1
  have HSUB := Lib.hid hsub
  have hc1 : c ≤ 9223372036854775807 := by unfold maxLen at hcm1; omega
  have HX0 := Lib.hid (show Below w.heap.size w (((w.alloc (.cells #[.int .i64 9, sv s, .int .i64 n, .slice A N c] 27)).alloc (.cells #[.int .i64 0, .string ⟨#[]⟩, .int .i64 0, .slice none 0 0] 27)).alloc (.cells #[.int .i64 7, .string ⟨#[]⟩, .int .i64 0, .slice none 0 0] 27)) from (((Below.refl _ _).alloc (Nat.le_refl _) _).alloc (by simp) _).alloc (by simp; omega) _)
  have HX1 := Lib.hid (show Blk (((w.alloc (.cells #[.int .i64 9, sv s, .int .i64 n, .slice A N c] 27)).alloc (.cells #[.int .i64 0, .string ⟨#[]⟩, .int .i64 0, .slice none 0 0] 27)).alloc (.cells #[.int .i64 7, .string ⟨#[]⟩, .int .i64 0, .slice none 0 0] 27)) w.heap.size 27 #[.int .i64 9, sv s, .int .i64 n, .slice A N c] from ((Blk.new w _ _).alloc _).alloc _)
  have hx2 : Blk (((w.alloc (.cells #[.int .i64 9, sv s, .int .i64 n, .slice A N c] 27)).alloc (.cells #[.int .i64 0, .string ⟨#[]⟩, .int .i64 0, .slice none 0 0] 27)).alloc (.cells #[.int .i64 7, .string ⟨#[]⟩, .int .i64 0, .slice none 0 0] 27)) (w.heap.size + 1) 27 #[.int .i64 0, .string ⟨#[]⟩, .int .i64 0, .slice none 0 0] := by
    have := Blk.new (w.alloc (.cells #[.int .i64 9, sv s, .int .i64 n, .slice A N c] 27)) 27 #[.int .i64 0, .string ⟨#[]⟩, .int .i64 0, .slice none 0 0]
    rw [World.alloc_size] at this
    exact this.alloc _
  have hx3 : Blk (((w.alloc (.cells #[.int .i64 9, sv s, .int .i64 n, .slice A N c] 27)).alloc (.cells #[.int .i64 0, .string ⟨#[]⟩, .int .i64 0, .slice none 0 0] 27)).alloc (.cells #[.int .i64 7, .string ⟨#[]⟩, .int .i64 0, .slice none 0 0] 27)) (w.heap.size + 2) 27 #[.int .i64 7, .string ⟨#[]⟩, .int .i64 0, .slice none 0 0] := by
    have := Blk.new ((w.alloc (.cells #[.int .i64 9, sv s, .int .i64 n, .slice A N c] 27)).alloc (.cells #[.int .i64 0, .string ⟨#[]⟩, .int .i64 0, .slice none 0 0] 27)) 27 #[.int .i64 7, .string ⟨#[]⟩, .int .i64 0, .slice none 0 0]
    rw [World.alloc_size, World.alloc_size] at this
    exact this
  have HX2 := Lib.hid hx2
  have HX3 := Lib.hid hx3
  have HZS := Lib.hid (show ((((w.alloc (.cells #[.int .i64 9, sv s, .int .i64 n, .slice A N c] 27)).alloc (.cells #[.int .i64 0, .string ⟨#[]⟩, .int .i64 0, .slice none 0 0] 27)).alloc (.cells #[.int .i64 7, .string ⟨#[]⟩, .int .i64 0, .slice none 0 0] 27))).heap.size = w.heap.size + 3 by rw [World.alloc_size, World.alloc_size, World.alloc_size])
  clear hok hd1 hl1 hN hr hx2 hx3 hs20 hsub
  go_enter Tryd.func26, Tryd.ntmps26
  go_wp2_with fail
  obtain ⟨G, hGe⟩ : ∃ G, w.heap.size + 2 = G := ⟨_, rfl⟩
  have hG : w.heap.size + 2 ≤ G := by omega
  rw [hGe] at HX3
  have HZ2 := Lib.hid (HZS.out.trans (show w.heap.size + 3 = G + 1 by omega))
  try rw [hGe]
  clear hGe
  go_loopw [4] (fun x wr => ∃ i v, i ≤ N ∧ x = .int .i64 (i : Nat) ∧ Blk wr w.heap.size 27 #[.int .i64 9, sv s, .int .i64 n, .slice A N c] ∧ Blk wr (w.heap.size + 1) 27 #[.int .i64 0, .string ⟨#[]⟩, .int .i64 0, .slice none 0 0] ∧ Blk wr G 27 #[.int .i64 7, .string ⟨#[]⟩, .int .i64 0, v] ∧ OR wr (G + 1) v ((Rep.flats l).take i) ∧ Below w.heap.size w wr ∧ G + 1 ≤ wr.heap.size) (fun x _ => N - (intOf x).toNat)
  case atStart => exact ⟨0, _, Nat.zero_le _, rfl, HX1.out, HX2.out, HX3.out, by rw [List.take_zero]; exact OR.nil _ _, HX0.out, by rw [HZ2.out]; omega⟩
  case round =>
    obtain ⟨i, v, him, rfl, hB1, hB2, hB3, hO, hbel, hsz⟩ := hrel
    rcases Nat.lt_or_ge i N with hlt | hge
    · obtain ⟨a1, r1, E1, f1, rfl, hSa1, hr1, hv1, p0, p1, p2, p3⟩ := (HD.out.keep (fun p hp => hbel.cell hp)).at_ (HL.out.keep (fun p hp => hbel.cell hp)) HN.out hlt
      have hlt' : (i : Int) < (N : Int) := by omega
      have hmem1 := List.mem_of_getElem? hr1
      obtain ⟨e, rfl, hoe⟩ := HSUB.out r1 hmem1
      have HT := Lib.hid (flats_take_succ l i hr1)
      have HTl := Lib.hid (show ((Rep.flats l).take i).length = i by rw [List.length_take, flats_len, HN.out]; omega)
      obtain ⟨acc, hacc⟩ : ∃ acc, (Rep.flats l).take i = acc := ⟨_, rfl⟩
      rw [hacc] at hO HT HTl
      obtain ⟨xs1, hown, hrl⟩ := hO
      rw [HTl.out] at hown
      obtain ⟨Av, cv, rfl⟩ := hown.sliceForm
      have HC := Lib.hid (ih r1 hmem1 e wr.drew [.int .i64 r1.k, sv r1.s, .int .i64 r1.n, .slice E1 r1.l.length f1] hoe
        (RV.drew_ (w := wr) (RV.mono (fun b hb => Nat.lt_of_lt_of_le hb hbel.size) hv1)))
      have c3 := hB3.cell 3
      have m3 := hB1.cell 3
      clear hacc hv1 hr1 hmem1 hoe
      have HB1o := Lib.hid hB1
      have HB2o := Lib.hid hB2
      have hgo : ∀ kk, (Value.slice Av i cv).ownBlock = some kk → G + 1 ≤ kk := fun kk hkk => (hown.lt kk hkk).1
      clear hB1 hB2
      go_wp2_with fail
      go_region_law (first
          | (refine step_call (by rfl) 26 #[.tmp 44] _ (by rfl) _ HC.out (by simp [Act.eval]) enter_rflat ?_; rintro e w1 ⟨⟨E2, f2, rfl, hv⟩, hb2⟩; refine ⟨_, rfl, ?_⟩; have hbx : Below wr.heap.size wr w1 := below_trans (Below.refl wr.heap.size wr).drew hb2; have hB3' := hB3.below hbx hB3.lt; have hown1 := hown.below_ hbx; have c3' := (hB3'.alloc (.cells #[.int .i64 r1.flat.k, sv r1.flat.s, .int .i64 r1.flat.n, .slice E2 r1.flat.l.length f2] 27)).cell 3; have c3'' := hB3'.cell 3; have hsz1 : G + 1 ≤ w1.heap.size := Nat.le_trans hsz hbx.size; have hlit : Own (w1.alloc (.cells #[.int .i64 r1.flat.k, sv r1.flat.s, .int .i64 r1.flat.n, .slice E2 r1.flat.l.length f2] 27)) (G + 1) 27 4 (.slice (some ⟨w1.heap.size, 0, none⟩) 1 1) 1 [.int .i64 r1.flat.k, sv r1.flat.s, .int .i64 r1.flat.n, .slice E2 r1.flat.l.length f2] := Own.lit (base := G + 1) (e := 27) (size := 4) w1 #[.int .i64 r1.flat.k, sv r1.flat.s, .int .i64 r1.flat.n, .slice E2 r1.flat.l.length f2] 1 hsz1 (by decide) rfl; have HB12 := Lib.hid (hB3'.alloc (.cells #[.int .i64 r1.flat.k, sv r1.flat.s, .int .i64 r1.flat.n, .slice E2 r1.flat.l.length f2] 27)); have hone : ∀ v ∈ ([.int .i64 r1.flat.k, sv r1.flat.s, .int .i64 r1.flat.n, .slice E2 r1.flat.l.length f2] : List Value), v.oneCell' = true := (by intro v hv; simp at hv; rcases hv with rfl | rfl | rfl | rfl <;> rfl))
          | (refine (step_append_Own _ (by rfl) (.tmp 39) (.tmp 46) _ _ (by rfl) (G + 1) 27 i0 _ 4 56 Tryd.underlying25 hi hz0 hz1 hz2 rfl (.slice Av i cv) i xs1 (by rfl) (hown1.alloc _) _ 1 [.int .i64 r1.flat.k, sv r1.flat.s, .int .i64 r1.flat.n, .slice E2 r1.flat.l.length f2] (by rfl) (Src.own hlit Tryd.underlying25 hone (by decide)) (by unfold maxLen; omega) (by omega) (by simp; omega) ?_); intro v4 w4 hO4 hg4 hat; obtain ⟨A4, c4, rfl⟩ := hO4.sliceForm; have hB13 := HB12.out.grown hg4 (fun e => by have := hgo _ e.symm; omega); have j3 := hB13.cell 3; have z3 := hB13.frozen 3))
      all_goals
        have hrl4 := RLs.push hsz hown hrl hbx (RV.mono (fun b hb => ⟨hb.1, hb.2⟩) hv) ((Below.refl w1.heap.size w1).alloc (Nat.le_refl _) (.cells #[.int .i64 r1.flat.k, sv r1.flat.s, .int .i64 r1.flat.n, .slice E2 r1.flat.l.length f2] 27)) hg4 (by simpa using hat)
        have hO5 : OR (w4.setCell ⟨G, 3, none⟩ (.slice A4 (i + 1) c4)) (G + 1) (.slice A4 (i + 1) c4) ((Rep.flats l).take (i + 1)) := by
          have h4 : OR w4 (G + 1) (.slice A4 (i + 1) c4) ((Rep.flats l).take (i + 1)) :=
            ⟨xs1 ++ [.int .i64 r1.flat.k, sv r1.flat.s, .int .i64 r1.flat.n, .slice E2 r1.flat.l.length f2], by rw [HT.out, List.length_append, HTl.out]; exact hO4, by rw [HT.out]; exact hrl4⟩
          exact h4.far (by omega) 3 _
        have hB15 : Blk (w4.setCell ⟨G, 3, none⟩ (.slice A4 (i + 1) c4)) w.heap.size 27 #[.int .i64 9, sv s, .int .i64 n, .slice (some a1) N c] := (((HB1o.out.below hbx HB1o.out.lt).alloc _).grown hg4 (fun e => by have := hgo _ e.symm; omega)).far (by simp; omega) _
        have hB25 : Blk (w4.setCell ⟨G, 3, none⟩ (.slice A4 (i + 1) c4)) (w.heap.size + 1) 27 #[.int .i64 0, .string ⟨#[]⟩, .int .i64 0, .slice none 0 0] := (((HB2o.out.below hbx HB2o.out.lt).alloc _).grown hg4 (fun e => by have := hgo _ e.symm; omega)).far (by simp; omega) _
        have hB35 : Blk (w4.setCell ⟨G, 3, none⟩ (.slice A4 (i + 1) c4)) G 27 #[.int .i64 7, .string ⟨#[]⟩, .int .i64 0, .slice A4 (i + 1) c4] := hB13.set_ 3 _
        have hbf : Below w.heap.size w (w4.setCell ⟨G, 3, none⟩ (.slice A4 (i + 1) c4)) :=
          below_set (((hbel.trans (hbx.mono hbel.size)).alloc (Nat.le_trans hbel.size hbx.size) _).grown hg4 (by have := hbel.size; have := hbx.size; simp; omega) (fun k hk => by have := hgo k hk; omega)) (by omega) 3 _
        have hszf : G + 1 ≤ (w4.setCell ⟨G, 3, none⟩ (.slice A4 (i + 1) c4)).heap.size := by
          rw [World.setCell_size]; have := hg4.size; simp at this; omega
        have HH := Lib.hid (And.intro hB15 (And.intro hB25 (And.intro hB35 (And.intro hO5 (And.intro hbf hszf)))))
        clear hB15 hB25 hB35 hO5 hbf hszf hrl4
        go_wp2_with fail
        go_roundw
        case rel =>
          first
            | exact ⟨i + 1, _, by omega, by go_num, HH.out.1, HH.out.2.1, HH.out.2.2.1, HH.out.2.2.2.1, HH.out.2.2.2.2.1, HH.out.2.2.2.2.2⟩
            | ((repeat apply Exists.intro); exact ⟨⟨i + 1, _, by omega, by go_num, HH.out.1, HH.out.2.1, HH.out.2.2.1, HH.out.2.2.2.1, HH.out.2.2.2.2.1, HH.out.2.2.2.2.2⟩, rfl⟩)
        case measure => simp [intOf]; omega
    · have hiN : i = N := by omega
      subst hiN
      have hfull : (Rep.flats l).take i = Rep.flats l := List.take_of_length_le (by rw [flats_len, HN.out]; exact Nat.le_refl _)
      rw [hfull] at hO
      have HLF := Lib.hid (show (Rep.flats l).length = i by rw [flats_len, HN.out])
      clear hfull
      obtain ⟨Av, cv, rfl⟩ := hO.form
      rw [HLF.out] at hB3 hO
      have hi1 : ¬ (i : Int) < (i : Int) := by omega
      have m3 := hB1.cell 3
      have HOF := Lib.hid hO
      have HBF := Lib.hid hbel
      have x2 := hB2.x4
      have z0 := hB2.frozen 0
      have z1 := hB2.frozen 1
      have z2 := hB2.frozen 2
      have z3 := hB2.frozen 3
      have x3 := hB3.x4
      clear hO hbel
      go_wp2_with fail
      refine bodyPost_ret (ret_cell1 rfl _ _ (w.heap.size + 1) _ _ _ _ _ rfl (hB2.put4 _ _ _ _)) rfl ?_
      rw [HF.out]
      have hOp := HOF.out.put4 (g := w.heap.size + 1) (by omega) (.int .i64 7) (.string ⟨#[]⟩) (.int .i64 0) (.slice Av i cv)
      have hrv := OR.rv (k := 7) (n := 0) (s := []) (S := New w (put4 wr (w.heap.size + 1) (.int .i64 7) (.string ⟨#[]⟩) (.int .i64 0) (.slice Av i cv))) hOp (by unfold fits; omega) (by unfold fits; omega) (Nat.zero_le _) HLF.out.symm (fun b h1 h2 => ⟨by omega, h2⟩)
      refine ⟨⟨_, _, ?_, hrv⟩, put4_below HBF.out _ (by omega) _ _ _ _⟩
      show Ending.returned (.agg #[.int .i64 7, .string ⟨#[]⟩, .int .i64 0, (.slice Av i cv)]) = _
      congr 2
      first | rfl | (simp only [Rep.l, HLF.out]; rfl)
theorem rflat_all : ∀ (N : Nat) (r : Rep), SizeOf.sizeOf r ≤ N → RFlatAt r := by
  intro N
  induction N with
  | zero => intro r h; cases r; simp at h
  | succ N ih =>
    intro r h
    obtain ⟨k, s, n, l⟩ := r
    have ih' : ∀ q ∈ l, RFlatAt q := fun q hq => ih q (by have := sizeOf_mem (k := k) (n := n) (s := s) hq; omega)
    by_cases h1 : k = 1
    · subst h1; exact rflat_line1 s n l
    by_cases h2 : k = 2
    · subst h2; exact rflat_line2 s n l
    by_cases h3 : k = 3
    · subst h3; exact rflat_int s n l
    by_cases h4 : k = 4
    · subst h4; exact rflat_bulk s n l
    by_cases h6 : k = 6
    · subst h6; exact rflat_na s n l
    by_cases h7 : k = 7
    · subst h7; exact rflat_parts7 s n l ih'
    by_cases h8 : k = 8
    · subst h8; exact rflat_parts8 s n l ih'
    by_cases h9 : k = 9
    · subst h9; exact rflat_parts9 s n l ih'
    exact rflat_null k h1 h2 h3 h4 h6 h7 h8 h9 s n l
theorem rflat_any {d : Nat} {r : Rep} {w : World} {cs : List Value} (hok : okF d r) (h : Liv w r cs) :
    Calls Tryd.prog 26 #[.agg cs.toArray] w fun e w' => FRet w w' e r.flat ∧ Below w.heap.size w w' := rflat_all _ r (Nat.le_refl _) d w cs hok h
end Go.Proofs.YtjdnpgdedbegfaaDoor
