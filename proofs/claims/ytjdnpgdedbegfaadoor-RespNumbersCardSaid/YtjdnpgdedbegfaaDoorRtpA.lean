/- The walk of plain at arrays, maps, sets; at any reply. -/
import Derived.Test.YtjdnpgdedbegfaaDoorRspZ
import Derived.Test.YtjdnpgdedbegfaaDoorStep
namespace Go.Proofs.YtjdnpgdedbegfaaDoor
open Go.RowKit Go.Shelf
set_option linter.unusedVariables false

theorem enter_plain : ∀ args w, (callFunc 14 args).run Tryd.prog w = .ok (.enter 14 args) w :=
  enter_of Tryd.func14 (by kernel_rfl) (by kernel_rfl)

set_option maxRecDepth 100000 in
set_option maxHeartbeats 8000000 in
theorem plain_parts7 (s : List UInt8) (n : Int) (l : List Rep) (ih : ∀ r ∈ l, PlainAt r) : PlainAt (.mk 7 s n l) := by
  intro d w cs hok hr
  obtain ⟨i0, hi, hz0, hz1, hz2⟩ := info_parts repinfo
  obtain ⟨hs20, hl4, hsub⟩ := okM_parts hok
  obtain ⟨A, c, xs, rfl, hk1, hn1, hs1, hlc1, hcm1, hd1, hl1⟩ := hr.fields
  simp only [Rep.k, Rep.s, Rep.n, Rep.l] at *
  obtain ⟨m, hm⟩ : ∃ m, l.length = m := ⟨_, rfl⟩
  have HF := Lib.hid (show Rep.pln (.mk 7 s n l) = .mk 7 s n ((l.map Rep.pln).take m) by rw [← hm, List.take_of_length_le (l := l.map Rep.pln) (by simp), pln_mk]; simp)
  have hmN : m ≤ l.length := by omega
  have HMl := Lib.hid (show ((l.map Rep.pln).take m).length = m by rw [List.length_take, List.length_map]; omega)
  obtain ⟨N, hN⟩ : ∃ N, l.length = N := ⟨_, rfl⟩
  have HN := Lib.hid hN
  have Hn := Lib.hid hn1
  have Hs := Lib.hid hs1
  rw [hN] at hlc1 hl4 hd1 hmN hm
  have HM2 := Lib.hid hm
  have HD := Lib.hid hd1
  have HL := Lib.hid hl1
  have hc1 : c ≤ 9223372036854775807 := by unfold maxLen at hcm1; omega
  have HB := Lib.hid (show Below w.heap.size w (((w.alloc (.cells #[.int .i64 7, sv s, .int .i64 n, .slice A N c] 27)).alloc (.cells #[.int .i64 0, .string ⟨#[]⟩, .int .i64 0, .slice none 0 0] 27)).alloc (.cells #[.int .i64 7, sv s, .int .i64 n, .slice none 0 0] 27)) from (((Below.refl _ _).alloc (Nat.le_refl _) _).alloc (by simp) _).alloc (by simp; omega) _)
  have HB1 := Lib.hid (show Blk (((w.alloc (.cells #[.int .i64 7, sv s, .int .i64 n, .slice A N c] 27)).alloc (.cells #[.int .i64 0, .string ⟨#[]⟩, .int .i64 0, .slice none 0 0] 27)).alloc (.cells #[.int .i64 7, sv s, .int .i64 n, .slice none 0 0] 27)) w.heap.size 27 #[.int .i64 7, sv s, .int .i64 n, .slice A N c] from ((Blk.new w _ _).alloc _).alloc _)
  have HB2 := Lib.hid (show Blk (((w.alloc (.cells #[.int .i64 7, sv s, .int .i64 n, .slice A N c] 27)).alloc (.cells #[.int .i64 0, .string ⟨#[]⟩, .int .i64 0, .slice none 0 0] 27)).alloc (.cells #[.int .i64 7, sv s, .int .i64 n, .slice none 0 0] 27)) (w.heap.size + 1) 27 #[.int .i64 0, .string ⟨#[]⟩, .int .i64 0, .slice none 0 0] by
    have := (Blk.new (w.alloc (.cells #[.int .i64 7, sv s, .int .i64 n, .slice A N c] 27)) 27 #[.int .i64 0, .string ⟨#[]⟩, .int .i64 0, .slice none 0 0]).alloc (.cells #[.int .i64 7, sv s, .int .i64 n, .slice none 0 0] 27)
    rwa [World.alloc_size] at this)
  have HB3 := Lib.hid (show Blk (((w.alloc (.cells #[.int .i64 7, sv s, .int .i64 n, .slice A N c] 27)).alloc (.cells #[.int .i64 0, .string ⟨#[]⟩, .int .i64 0, .slice none 0 0] 27)).alloc (.cells #[.int .i64 7, sv s, .int .i64 n, .slice none 0 0] 27)) (w.heap.size + 2) 27 #[.int .i64 7, sv s, .int .i64 n, .slice none 0 0] by
    have h0 := Blk.new ((w.alloc (.cells #[.int .i64 7, sv s, .int .i64 n, .slice A N c] 27)).alloc (.cells #[.int .i64 0, .string ⟨#[]⟩, .int .i64 0, .slice none 0 0] 27)) 27 #[.int .i64 7, sv s, .int .i64 n, .slice none 0 0]
    rwa [World.alloc_size, World.alloc_size] at h0)
  rw [hN] at hr ⊢
  clear hok hd1 hl1 hN hr hm
  go_enter Tryd.func14, Tryd.ntmps14
  go_wp2_with fail
  skip
  go_loopw [6] (fun x wr => ∃ i v, i ≤ m ∧ x = .int .i64 (i : Nat) ∧ Blk wr w.heap.size 27 #[.int .i64 7, sv s, .int .i64 n, .slice A N c] ∧ Blk wr (w.heap.size + 1) 27 #[.int .i64 0, .string ⟨#[]⟩, .int .i64 0, .slice none 0 0] ∧ Blk wr (w.heap.size + 2) 27 #[.int .i64 7, sv s, .int .i64 n, v] ∧ OR wr (w.heap.size + 3) v ((l.map Rep.pln).take i) ∧ Below w.heap.size w wr ∧ w.heap.size + 3 ≤ wr.heap.size) (fun x _ => m - (intOf x).toNat)
  case atStart => exact ⟨0, _, Nat.zero_le _, rfl, HB1.out, HB2.out, HB3.out, by rw [List.take_zero]; exact OR.nil _ _, HB.out, by simp⟩
  case round =>
    obtain ⟨i, v, him, rfl, hB1, hB2, hB3, hO, hbel, hsz⟩ := hrel
    rcases Nat.lt_or_ge i m with hlt | hge
    · obtain ⟨a1, r1, E1, f1, rfl, hSa1, hr1, hv1, p0, p1, p2, p3⟩ := (HD.out.keep (fun p hp => hbel.cell hp)).at_ (HL.out.keep (fun p hp => hbel.cell hp)) HN.out (Nat.lt_of_lt_of_le hlt hmN)
      have hlt' : (i : Int) < (m : Int) := by omega
      have hltN : (i : Int) < (N : Int) := by omega
      have hi0 : (0 : Int) ≤ (i : Int) := by omega
      obtain ⟨e, rfl, hoe⟩ := hsub r1 (List.mem_of_getElem? hr1)
      have HT := Lib.hid (show (l.map Rep.pln).take (i + 1) = (l.map Rep.pln).take i ++ [r1.pln] by
        obtain ⟨h1, h2⟩ := List.getElem?_eq_some_iff.1 hr1
        rw [List.take_succ_eq_append_getElem (by simpa using h1), List.getElem_map, h2])
      have HTl := Lib.hid (show ((l.map Rep.pln).take i).length = i by rw [List.length_take, List.length_map, HN.out]; omega)
      obtain ⟨acc, hacc⟩ : ∃ acc, (l.map Rep.pln).take i = acc := ⟨_, rfl⟩
      rw [hacc] at hO HT HTl
      obtain ⟨xs1, hown, hrl⟩ := hO
      rw [HTl.out] at hown
      obtain ⟨Av, cv, rfl⟩ := hown.sliceForm
      have HC := Lib.hid (ih r1 (List.mem_of_getElem? hr1) e wr.drew [.int .i64 r1.k, sv r1.s, .int .i64 r1.n, .slice E1 r1.l.length f1] hoe (RV.drew_ (w := wr) (RV.mono (fun b hb => Nat.lt_of_lt_of_le hb hbel.size) hv1)))
      have c3 := hB3.cell 3
      have c13 := hB1.cell 3
      have hb1 : Below wr.heap.size wr wr := Below.refl _ _
      have HB1' := Lib.hid hb1
      have hgo : ∀ kk, (Value.slice Av i cv).ownBlock = some kk → w.heap.size + 3 ≤ kk := fun kk hkk => (hown.lt kk hkk).1
      clear hacc hv1 hr1 hb1
      go_wp2_with fail
      go_region_law (first
          | (refine step_call (by rfl) 14 #[.tmp 77] _ (by rfl) _ HC.out (by simp [Act.eval]) enter_plain ?_; rintro e w1 ⟨⟨E2, f2, rfl, hv⟩, hb2⟩; refine ⟨_, rfl, ?_⟩; have hbx : Below wr.heap.size wr w1 := HB1'.out.drew.trans hb2; have hB3' := hB3.below hbx hB3.lt; have hB1x := hB1.below hbx hB1.lt; have hown1 := hown.below_ hbx; have c3' := (hB3'.alloc (.cells #[.int .i64 r1.pln.k, sv r1.pln.s, .int .i64 r1.pln.n, .slice E2 r1.pln.l.length f2] 27)).cell 3; have c3'' := hB3'.cell 3; have hsz1 : w.heap.size + 3 ≤ w1.heap.size := Nat.le_trans hsz hbx.size; have hlit : Own (w1.alloc (.cells #[.int .i64 r1.pln.k, sv r1.pln.s, .int .i64 r1.pln.n, .slice E2 r1.pln.l.length f2] 27)) (w.heap.size + 3) 27 4 (.slice (some ⟨w1.heap.size, 0, none⟩) 1 1) 1 [.int .i64 r1.pln.k, sv r1.pln.s, .int .i64 r1.pln.n, .slice E2 r1.pln.l.length f2] := Own.lit (base := w.heap.size + 3) (e := 27) (size := 4) w1 #[.int .i64 r1.pln.k, sv r1.pln.s, .int .i64 r1.pln.n, .slice E2 r1.pln.l.length f2] 1 hsz1 (by decide) rfl; have HB12 := Lib.hid (hB3'.alloc (.cells #[.int .i64 r1.pln.k, sv r1.pln.s, .int .i64 r1.pln.n, .slice E2 r1.pln.l.length f2] 27)); have hone : ∀ v ∈ ([.int .i64 r1.pln.k, sv r1.pln.s, .int .i64 r1.pln.n, .slice E2 r1.pln.l.length f2] : List Value), v.oneCell' = true := (by intro v hv; simp at hv; rcases hv with rfl | rfl | rfl | rfl <;> rfl))
          | (refine (step_append_Own _ (by rfl) (.tmp 72) (.tmp 79) _ _ (by rfl) (w.heap.size + 3) 27 i0 _ 4 56 Tryd.underlying25 hi hz0 hz1 hz2 rfl (.slice Av i cv) i xs1 (by rfl) (hown1.alloc _) _ 1 [.int .i64 r1.pln.k, sv r1.pln.s, .int .i64 r1.pln.n, .slice E2 r1.pln.l.length f2] (by rfl) (Src.own hlit Tryd.underlying25 hone (by decide)) (by unfold maxLen; omega) (by omega) (by simp; omega) ?_); intro v4 w4 hO4 hg4 hat; obtain ⟨A4, c4, rfl⟩ := hO4.sliceForm; have hB13 := HB12.out.grown hg4 (fun e => by have := hgo _ e.symm; omega); have j3 := hB13.cell 3; have z3 := hB13.frozen 3))
      all_goals
        have hrl4 := RLs.push hsz hown hrl hbx (RV.mono (fun b hb => hb) hv) ((Below.refl w1.heap.size w1).alloc (Nat.le_refl _) (.cells #[.int .i64 r1.pln.k, sv r1.pln.s, .int .i64 r1.pln.n, .slice E2 r1.pln.l.length f2] 27)) hg4 (by simpa using hat)
        have hO5 : OR (w4.setCell ⟨w.heap.size + 2, 3, none⟩ (.slice A4 (i + 1) c4)) (w.heap.size + 3) (.slice A4 (i + 1) c4) ((l.map Rep.pln).take (i + 1)) := by
          have h4 : OR w4 (w.heap.size + 3) (.slice A4 (i + 1) c4) ((l.map Rep.pln).take (i + 1)) :=
            ⟨xs1 ++ [.int .i64 r1.pln.k, sv r1.pln.s, .int .i64 r1.pln.n, .slice E2 r1.pln.l.length f2], by rw [HT.out, List.length_append, HTl.out]; exact hO4, by rw [HT.out]; exact hrl4⟩
          exact h4.far (by omega) 3 _
        have hB15 : Blk (w4.setCell ⟨w.heap.size + 2, 3, none⟩ (.slice A4 (i + 1) c4)) w.heap.size 27 #[.int .i64 7, sv s, .int .i64 n, .slice (some a1) N c] := ((hB1x.alloc _).grown hg4 (fun e => by have := hgo _ e.symm; omega)).far (by simp) _
        have hB25 : Blk (w4.setCell ⟨w.heap.size + 2, 3, none⟩ (.slice A4 (i + 1) c4)) (w.heap.size + 1) 27 #[.int .i64 0, .string ⟨#[]⟩, .int .i64 0, .slice none 0 0] := (((hB2.below hbx hB2.lt).alloc _).grown hg4 (fun e => by have := hgo _ e.symm; omega)).far (by simp) _
        have hB35 : Blk (w4.setCell ⟨w.heap.size + 2, 3, none⟩ (.slice A4 (i + 1) c4)) (w.heap.size + 2) 27 #[.int .i64 7, sv s, .int .i64 n, .slice A4 (i + 1) c4] := hB13.set_ 3 _
        have hbf : Below w.heap.size w (w4.setCell ⟨w.heap.size + 2, 3, none⟩ (.slice A4 (i + 1) c4)) :=
          below_set (((hbel.trans (hbx.mono hbel.size)).alloc (Nat.le_trans hbel.size hbx.size) _).grown hg4 (by have := hbel.size; have := hbx.size; simp; omega) (fun k hk => by have := hgo k hk; omega)) (by omega) 3 _
        have hszf : w.heap.size + 3 ≤ (w4.setCell ⟨w.heap.size + 2, 3, none⟩ (.slice A4 (i + 1) c4)).heap.size := by
          rw [World.setCell_size]; have := hg4.size; simp at this; omega
        have HH := Lib.hid (And.intro hB15 (And.intro hB25 (And.intro hB35 (And.intro hO5 (And.intro hbf hszf)))))
        clear hB15 hB25 hB35 hO5 hbf hszf hrl4
        go_wp2_with fail
        go_roundw
        case rel =>
          first
            | exact ⟨i + 1, _, by omega, by go_num, HH.out.1, HH.out.2.1, HH.out.2.2.1, HH.out.2.2.2.1, HH.out.2.2.2.2.1, HH.out.2.2.2.2.2⟩
            | ((repeat apply Exists.intro); exact ⟨⟨i + 1, _, by omega, by go_num, HH.out.1, HH.out.2.1, HH.out.2.2.1, HH.out.2.2.2.1, HH.out.2.2.2.2.1, HH.out.2.2.2.2.2⟩, rfl⟩)
        case measure => simp [intOf]; omega
    · have hiN : i = m := by omega
      have hge2 : ¬ (i : Int) < (N : Int) := by have := HM2.out; omega
      subst hiN
      obtain ⟨Av, cv, rfl⟩ := hO.form
      rw [HMl.out] at hB3 hO
      have k0 := hB2.cell 0
      have k1 := hB2.cell 1
      have k2 := hB2.cell 2
      have k3 := hB2.cell 3
      have z0 := hB2.frozen 0
      have z1 := hB2.frozen 1
      have z2 := hB2.frozen 2
      have z3 := hB2.frozen 3
      have j0 := hB3.cell 0
      have j1 := hB3.cell 1
      have j2 := hB3.cell 2
      have j3 := hB3.cell 3
      go_wp2_with fail
      refine bodyPost_ret (ret_cell1 rfl _ _ (w.heap.size + 1) _ _ _ _ _ rfl (hB2.put4 _ _ _ _)) rfl ?_
      rw [HF.out]
      have hOp := hO.put4 (g := w.heap.size + 1) (by omega) (.int .i64 7) (sv s) (.int .i64 n) (.slice Av i cv)
      have hrv := OR.rv (k := 7) (n := n) (s := s) (S := New w (put4 wr (w.heap.size + 1) (.int .i64 7) (sv s) (.int .i64 n) (.slice Av i cv))) hOp (by unfold fits; omega) Hn.out Hs.out HMl.out.symm (fun b h1 h2 => ⟨by omega, h2⟩)
      refine ⟨⟨Av, cv, ?_, hrv⟩, put4_below hbel _ (by omega) _ _ _ _⟩
      show Ending.returned (.agg #[.int .i64 7, sv s, .int .i64 n, .slice Av i cv]) = Ending.returned (.agg #[.int .i64 7, sv s, .int .i64 n, .slice Av ((l.map Rep.pln).take i).length cv])
      rw [HMl.out]

set_option maxRecDepth 100000 in
set_option maxHeartbeats 8000000 in
theorem plain_parts8 (s : List UInt8) (n : Int) (l : List Rep) (ih : ∀ r ∈ l, PlainAt r) : PlainAt (.mk 8 s n l) := by
  intro d w cs hok hr
  obtain ⟨i0, hi, hz0, hz1, hz2⟩ := info_parts repinfo
  obtain ⟨hs20, hl4, hsub⟩ := okM_parts hok
  obtain ⟨A, c, xs, rfl, hk1, hn1, hs1, hlc1, hcm1, hd1, hl1⟩ := hr.fields
  simp only [Rep.k, Rep.s, Rep.n, Rep.l] at *
  obtain ⟨m, hm⟩ : ∃ m, l.length / 2 * 2 = m := ⟨_, rfl⟩
  have HF := Lib.hid (show Rep.pln (.mk 8 s n l) = .mk 8 s n ((l.map Rep.pln).take m) by rw [pln_mk, ← hm]; simp)
  have hmN : m ≤ l.length := by omega
  have HMl := Lib.hid (show ((l.map Rep.pln).take m).length = m by rw [List.length_take, List.length_map]; omega)
  obtain ⟨N, hN⟩ : ∃ N, l.length = N := ⟨_, rfl⟩
  have HN := Lib.hid hN
  have Hn := Lib.hid hn1
  have Hs := Lib.hid hs1
  rw [hN] at hlc1 hl4 hd1 hmN hm
  have HM2 := Lib.hid (show (N : Int) / 2 * 2 = (m : Int) by omega)
  have HD := Lib.hid hd1
  have HL := Lib.hid hl1
  have hc1 : c ≤ 9223372036854775807 := by unfold maxLen at hcm1; omega
  have HB := Lib.hid (show Below w.heap.size w (((w.alloc (.cells #[.int .i64 8, sv s, .int .i64 n, .slice A N c] 27)).alloc (.cells #[.int .i64 0, .string ⟨#[]⟩, .int .i64 0, .slice none 0 0] 27)).alloc (.cells #[.int .i64 8, sv s, .int .i64 n, .slice none 0 0] 27)) from (((Below.refl _ _).alloc (Nat.le_refl _) _).alloc (by simp) _).alloc (by simp; omega) _)
  have HB1 := Lib.hid (show Blk (((w.alloc (.cells #[.int .i64 8, sv s, .int .i64 n, .slice A N c] 27)).alloc (.cells #[.int .i64 0, .string ⟨#[]⟩, .int .i64 0, .slice none 0 0] 27)).alloc (.cells #[.int .i64 8, sv s, .int .i64 n, .slice none 0 0] 27)) w.heap.size 27 #[.int .i64 8, sv s, .int .i64 n, .slice A N c] from ((Blk.new w _ _).alloc _).alloc _)
  have HB2 := Lib.hid (show Blk (((w.alloc (.cells #[.int .i64 8, sv s, .int .i64 n, .slice A N c] 27)).alloc (.cells #[.int .i64 0, .string ⟨#[]⟩, .int .i64 0, .slice none 0 0] 27)).alloc (.cells #[.int .i64 8, sv s, .int .i64 n, .slice none 0 0] 27)) (w.heap.size + 1) 27 #[.int .i64 0, .string ⟨#[]⟩, .int .i64 0, .slice none 0 0] by
    have := (Blk.new (w.alloc (.cells #[.int .i64 8, sv s, .int .i64 n, .slice A N c] 27)) 27 #[.int .i64 0, .string ⟨#[]⟩, .int .i64 0, .slice none 0 0]).alloc (.cells #[.int .i64 8, sv s, .int .i64 n, .slice none 0 0] 27)
    rwa [World.alloc_size] at this)
  have HB3 := Lib.hid (show Blk (((w.alloc (.cells #[.int .i64 8, sv s, .int .i64 n, .slice A N c] 27)).alloc (.cells #[.int .i64 0, .string ⟨#[]⟩, .int .i64 0, .slice none 0 0] 27)).alloc (.cells #[.int .i64 8, sv s, .int .i64 n, .slice none 0 0] 27)) (w.heap.size + 2) 27 #[.int .i64 8, sv s, .int .i64 n, .slice none 0 0] by
    have h0 := Blk.new ((w.alloc (.cells #[.int .i64 8, sv s, .int .i64 n, .slice A N c] 27)).alloc (.cells #[.int .i64 0, .string ⟨#[]⟩, .int .i64 0, .slice none 0 0] 27)) 27 #[.int .i64 8, sv s, .int .i64 n, .slice none 0 0]
    rwa [World.alloc_size, World.alloc_size] at h0)
  rw [hN] at hr ⊢
  clear hok hd1 hl1 hN hr hm
  go_enter Tryd.func14, Tryd.ntmps14
  go_wp2_with fail
  rw [HM2.out]
  go_loopw [6] (fun x wr => ∃ i v, i ≤ m ∧ x = .int .i64 (i : Nat) ∧ Blk wr w.heap.size 27 #[.int .i64 8, sv s, .int .i64 n, .slice A N c] ∧ Blk wr (w.heap.size + 1) 27 #[.int .i64 0, .string ⟨#[]⟩, .int .i64 0, .slice none 0 0] ∧ Blk wr (w.heap.size + 2) 27 #[.int .i64 8, sv s, .int .i64 n, v] ∧ OR wr (w.heap.size + 3) v ((l.map Rep.pln).take i) ∧ Below w.heap.size w wr ∧ w.heap.size + 3 ≤ wr.heap.size) (fun x _ => m - (intOf x).toNat)
  case atStart => exact ⟨0, _, Nat.zero_le _, rfl, HB1.out, HB2.out, HB3.out, by rw [List.take_zero]; exact OR.nil _ _, HB.out, by simp⟩
  case round =>
    obtain ⟨i, v, him, rfl, hB1, hB2, hB3, hO, hbel, hsz⟩ := hrel
    rcases Nat.lt_or_ge i m with hlt | hge
    · obtain ⟨a1, r1, E1, f1, rfl, hSa1, hr1, hv1, p0, p1, p2, p3⟩ := (HD.out.keep (fun p hp => hbel.cell hp)).at_ (HL.out.keep (fun p hp => hbel.cell hp)) HN.out (Nat.lt_of_lt_of_le hlt hmN)
      have hlt' : (i : Int) < (m : Int) := by omega
      have hltN : (i : Int) < (N : Int) := by omega
      have hi0 : (0 : Int) ≤ (i : Int) := by omega
      obtain ⟨e, rfl, hoe⟩ := hsub r1 (List.mem_of_getElem? hr1)
      have HT := Lib.hid (show (l.map Rep.pln).take (i + 1) = (l.map Rep.pln).take i ++ [r1.pln] by
        obtain ⟨h1, h2⟩ := List.getElem?_eq_some_iff.1 hr1
        rw [List.take_succ_eq_append_getElem (by simpa using h1), List.getElem_map, h2])
      have HTl := Lib.hid (show ((l.map Rep.pln).take i).length = i by rw [List.length_take, List.length_map, HN.out]; omega)
      obtain ⟨acc, hacc⟩ : ∃ acc, (l.map Rep.pln).take i = acc := ⟨_, rfl⟩
      rw [hacc] at hO HT HTl
      obtain ⟨xs1, hown, hrl⟩ := hO
      rw [HTl.out] at hown
      obtain ⟨Av, cv, rfl⟩ := hown.sliceForm
      have HC := Lib.hid (ih r1 (List.mem_of_getElem? hr1) e wr.drew [.int .i64 r1.k, sv r1.s, .int .i64 r1.n, .slice E1 r1.l.length f1] hoe (RV.drew_ (w := wr) (RV.mono (fun b hb => Nat.lt_of_lt_of_le hb hbel.size) hv1)))
      have c3 := hB3.cell 3
      have c13 := hB1.cell 3
      have hb1 : Below wr.heap.size wr wr := Below.refl _ _
      have HB1' := Lib.hid hb1
      have hgo : ∀ kk, (Value.slice Av i cv).ownBlock = some kk → w.heap.size + 3 ≤ kk := fun kk hkk => (hown.lt kk hkk).1
      clear hacc hv1 hr1 hb1
      go_wp2_with fail
      go_region_law (first
          | (refine step_call (by rfl) 14 #[.tmp 77] _ (by rfl) _ HC.out (by simp [Act.eval]) enter_plain ?_; rintro e w1 ⟨⟨E2, f2, rfl, hv⟩, hb2⟩; refine ⟨_, rfl, ?_⟩; have hbx : Below wr.heap.size wr w1 := HB1'.out.drew.trans hb2; have hB3' := hB3.below hbx hB3.lt; have hB1x := hB1.below hbx hB1.lt; have hown1 := hown.below_ hbx; have c3' := (hB3'.alloc (.cells #[.int .i64 r1.pln.k, sv r1.pln.s, .int .i64 r1.pln.n, .slice E2 r1.pln.l.length f2] 27)).cell 3; have c3'' := hB3'.cell 3; have hsz1 : w.heap.size + 3 ≤ w1.heap.size := Nat.le_trans hsz hbx.size; have hlit : Own (w1.alloc (.cells #[.int .i64 r1.pln.k, sv r1.pln.s, .int .i64 r1.pln.n, .slice E2 r1.pln.l.length f2] 27)) (w.heap.size + 3) 27 4 (.slice (some ⟨w1.heap.size, 0, none⟩) 1 1) 1 [.int .i64 r1.pln.k, sv r1.pln.s, .int .i64 r1.pln.n, .slice E2 r1.pln.l.length f2] := Own.lit (base := w.heap.size + 3) (e := 27) (size := 4) w1 #[.int .i64 r1.pln.k, sv r1.pln.s, .int .i64 r1.pln.n, .slice E2 r1.pln.l.length f2] 1 hsz1 (by decide) rfl; have HB12 := Lib.hid (hB3'.alloc (.cells #[.int .i64 r1.pln.k, sv r1.pln.s, .int .i64 r1.pln.n, .slice E2 r1.pln.l.length f2] 27)); have hone : ∀ v ∈ ([.int .i64 r1.pln.k, sv r1.pln.s, .int .i64 r1.pln.n, .slice E2 r1.pln.l.length f2] : List Value), v.oneCell' = true := (by intro v hv; simp at hv; rcases hv with rfl | rfl | rfl | rfl <;> rfl))
          | (refine (step_append_Own _ (by rfl) (.tmp 72) (.tmp 79) _ _ (by rfl) (w.heap.size + 3) 27 i0 _ 4 56 Tryd.underlying25 hi hz0 hz1 hz2 rfl (.slice Av i cv) i xs1 (by rfl) (hown1.alloc _) _ 1 [.int .i64 r1.pln.k, sv r1.pln.s, .int .i64 r1.pln.n, .slice E2 r1.pln.l.length f2] (by rfl) (Src.own hlit Tryd.underlying25 hone (by decide)) (by unfold maxLen; omega) (by omega) (by simp; omega) ?_); intro v4 w4 hO4 hg4 hat; obtain ⟨A4, c4, rfl⟩ := hO4.sliceForm; have hB13 := HB12.out.grown hg4 (fun e => by have := hgo _ e.symm; omega); have j3 := hB13.cell 3; have z3 := hB13.frozen 3))
      all_goals
        have hrl4 := RLs.push hsz hown hrl hbx (RV.mono (fun b hb => hb) hv) ((Below.refl w1.heap.size w1).alloc (Nat.le_refl _) (.cells #[.int .i64 r1.pln.k, sv r1.pln.s, .int .i64 r1.pln.n, .slice E2 r1.pln.l.length f2] 27)) hg4 (by simpa using hat)
        have hO5 : OR (w4.setCell ⟨w.heap.size + 2, 3, none⟩ (.slice A4 (i + 1) c4)) (w.heap.size + 3) (.slice A4 (i + 1) c4) ((l.map Rep.pln).take (i + 1)) := by
          have h4 : OR w4 (w.heap.size + 3) (.slice A4 (i + 1) c4) ((l.map Rep.pln).take (i + 1)) :=
            ⟨xs1 ++ [.int .i64 r1.pln.k, sv r1.pln.s, .int .i64 r1.pln.n, .slice E2 r1.pln.l.length f2], by rw [HT.out, List.length_append, HTl.out]; exact hO4, by rw [HT.out]; exact hrl4⟩
          exact h4.far (by omega) 3 _
        have hB15 : Blk (w4.setCell ⟨w.heap.size + 2, 3, none⟩ (.slice A4 (i + 1) c4)) w.heap.size 27 #[.int .i64 8, sv s, .int .i64 n, .slice (some a1) N c] := ((hB1x.alloc _).grown hg4 (fun e => by have := hgo _ e.symm; omega)).far (by simp) _
        have hB25 : Blk (w4.setCell ⟨w.heap.size + 2, 3, none⟩ (.slice A4 (i + 1) c4)) (w.heap.size + 1) 27 #[.int .i64 0, .string ⟨#[]⟩, .int .i64 0, .slice none 0 0] := (((hB2.below hbx hB2.lt).alloc _).grown hg4 (fun e => by have := hgo _ e.symm; omega)).far (by simp) _
        have hB35 : Blk (w4.setCell ⟨w.heap.size + 2, 3, none⟩ (.slice A4 (i + 1) c4)) (w.heap.size + 2) 27 #[.int .i64 8, sv s, .int .i64 n, .slice A4 (i + 1) c4] := hB13.set_ 3 _
        have hbf : Below w.heap.size w (w4.setCell ⟨w.heap.size + 2, 3, none⟩ (.slice A4 (i + 1) c4)) :=
          below_set (((hbel.trans (hbx.mono hbel.size)).alloc (Nat.le_trans hbel.size hbx.size) _).grown hg4 (by have := hbel.size; have := hbx.size; simp; omega) (fun k hk => by have := hgo k hk; omega)) (by omega) 3 _
        have hszf : w.heap.size + 3 ≤ (w4.setCell ⟨w.heap.size + 2, 3, none⟩ (.slice A4 (i + 1) c4)).heap.size := by
          rw [World.setCell_size]; have := hg4.size; simp at this; omega
        have HH := Lib.hid (And.intro hB15 (And.intro hB25 (And.intro hB35 (And.intro hO5 (And.intro hbf hszf)))))
        clear hB15 hB25 hB35 hO5 hbf hszf hrl4
        go_wp2_with fail
        go_roundw
        case rel =>
          first
            | exact ⟨i + 1, _, by omega, by go_num, HH.out.1, HH.out.2.1, HH.out.2.2.1, HH.out.2.2.2.1, HH.out.2.2.2.2.1, HH.out.2.2.2.2.2⟩
            | ((repeat apply Exists.intro); exact ⟨⟨i + 1, _, by omega, by go_num, HH.out.1, HH.out.2.1, HH.out.2.2.1, HH.out.2.2.2.1, HH.out.2.2.2.2.1, HH.out.2.2.2.2.2⟩, rfl⟩)
        case measure => simp [intOf]; omega
    · have hiN : i = m := by omega
      skip
      subst hiN
      obtain ⟨Av, cv, rfl⟩ := hO.form
      rw [HMl.out] at hB3 hO
      have k0 := hB2.cell 0
      have k1 := hB2.cell 1
      have k2 := hB2.cell 2
      have k3 := hB2.cell 3
      have z0 := hB2.frozen 0
      have z1 := hB2.frozen 1
      have z2 := hB2.frozen 2
      have z3 := hB2.frozen 3
      have j0 := hB3.cell 0
      have j1 := hB3.cell 1
      have j2 := hB3.cell 2
      have j3 := hB3.cell 3
      go_wp2_with fail
      refine bodyPost_ret (ret_cell1 rfl _ _ (w.heap.size + 1) _ _ _ _ _ rfl (hB2.put4 _ _ _ _)) rfl ?_
      rw [HF.out]
      have hOp := hO.put4 (g := w.heap.size + 1) (by omega) (.int .i64 8) (sv s) (.int .i64 n) (.slice Av i cv)
      have hrv := OR.rv (k := 8) (n := n) (s := s) (S := New w (put4 wr (w.heap.size + 1) (.int .i64 8) (sv s) (.int .i64 n) (.slice Av i cv))) hOp (by unfold fits; omega) Hn.out Hs.out HMl.out.symm (fun b h1 h2 => ⟨by omega, h2⟩)
      refine ⟨⟨Av, cv, ?_, hrv⟩, put4_below hbel _ (by omega) _ _ _ _⟩
      show Ending.returned (.agg #[.int .i64 8, sv s, .int .i64 n, .slice Av i cv]) = Ending.returned (.agg #[.int .i64 8, sv s, .int .i64 n, .slice Av ((l.map Rep.pln).take i).length cv])
      rw [HMl.out]

set_option maxRecDepth 100000 in
set_option maxHeartbeats 8000000 in
theorem plain_parts9 (s : List UInt8) (n : Int) (l : List Rep) (ih : ∀ r ∈ l, PlainAt r) : PlainAt (.mk 9 s n l) := by
  intro d w cs hok hr
  obtain ⟨i0, hi, hz0, hz1, hz2⟩ := info_parts repinfo
  obtain ⟨hs20, hl4, hsub⟩ := okM_parts hok
  obtain ⟨A, c, xs, rfl, hk1, hn1, hs1, hlc1, hcm1, hd1, hl1⟩ := hr.fields
  simp only [Rep.k, Rep.s, Rep.n, Rep.l] at *
  obtain ⟨m, hm⟩ : ∃ m, l.length = m := ⟨_, rfl⟩
  have HF := Lib.hid (show Rep.pln (.mk 9 s n l) = .mk 9 s n ((l.map Rep.pln).take m) by rw [← hm, List.take_of_length_le (l := l.map Rep.pln) (by simp), pln_mk]; simp)
  have hmN : m ≤ l.length := by omega
  have HMl := Lib.hid (show ((l.map Rep.pln).take m).length = m by rw [List.length_take, List.length_map]; omega)
  obtain ⟨N, hN⟩ : ∃ N, l.length = N := ⟨_, rfl⟩
  have HN := Lib.hid hN
  have Hn := Lib.hid hn1
  have Hs := Lib.hid hs1
  rw [hN] at hlc1 hl4 hd1 hmN hm
  have HM2 := Lib.hid hm
  have HD := Lib.hid hd1
  have HL := Lib.hid hl1
  have hc1 : c ≤ 9223372036854775807 := by unfold maxLen at hcm1; omega
  have HB := Lib.hid (show Below w.heap.size w (((w.alloc (.cells #[.int .i64 9, sv s, .int .i64 n, .slice A N c] 27)).alloc (.cells #[.int .i64 0, .string ⟨#[]⟩, .int .i64 0, .slice none 0 0] 27)).alloc (.cells #[.int .i64 9, sv s, .int .i64 n, .slice none 0 0] 27)) from (((Below.refl _ _).alloc (Nat.le_refl _) _).alloc (by simp) _).alloc (by simp; omega) _)
  have HB1 := Lib.hid (show Blk (((w.alloc (.cells #[.int .i64 9, sv s, .int .i64 n, .slice A N c] 27)).alloc (.cells #[.int .i64 0, .string ⟨#[]⟩, .int .i64 0, .slice none 0 0] 27)).alloc (.cells #[.int .i64 9, sv s, .int .i64 n, .slice none 0 0] 27)) w.heap.size 27 #[.int .i64 9, sv s, .int .i64 n, .slice A N c] from ((Blk.new w _ _).alloc _).alloc _)
  have HB2 := Lib.hid (show Blk (((w.alloc (.cells #[.int .i64 9, sv s, .int .i64 n, .slice A N c] 27)).alloc (.cells #[.int .i64 0, .string ⟨#[]⟩, .int .i64 0, .slice none 0 0] 27)).alloc (.cells #[.int .i64 9, sv s, .int .i64 n, .slice none 0 0] 27)) (w.heap.size + 1) 27 #[.int .i64 0, .string ⟨#[]⟩, .int .i64 0, .slice none 0 0] by
    have := (Blk.new (w.alloc (.cells #[.int .i64 9, sv s, .int .i64 n, .slice A N c] 27)) 27 #[.int .i64 0, .string ⟨#[]⟩, .int .i64 0, .slice none 0 0]).alloc (.cells #[.int .i64 9, sv s, .int .i64 n, .slice none 0 0] 27)
    rwa [World.alloc_size] at this)
  have HB3 := Lib.hid (show Blk (((w.alloc (.cells #[.int .i64 9, sv s, .int .i64 n, .slice A N c] 27)).alloc (.cells #[.int .i64 0, .string ⟨#[]⟩, .int .i64 0, .slice none 0 0] 27)).alloc (.cells #[.int .i64 9, sv s, .int .i64 n, .slice none 0 0] 27)) (w.heap.size + 2) 27 #[.int .i64 9, sv s, .int .i64 n, .slice none 0 0] by
    have h0 := Blk.new ((w.alloc (.cells #[.int .i64 9, sv s, .int .i64 n, .slice A N c] 27)).alloc (.cells #[.int .i64 0, .string ⟨#[]⟩, .int .i64 0, .slice none 0 0] 27)) 27 #[.int .i64 9, sv s, .int .i64 n, .slice none 0 0]
    rwa [World.alloc_size, World.alloc_size] at h0)
  rw [hN] at hr ⊢
  clear hok hd1 hl1 hN hr hm
  go_enter Tryd.func14, Tryd.ntmps14
  go_wp2_with fail
  skip
  go_loopw [6] (fun x wr => ∃ i v, i ≤ m ∧ x = .int .i64 (i : Nat) ∧ Blk wr w.heap.size 27 #[.int .i64 9, sv s, .int .i64 n, .slice A N c] ∧ Blk wr (w.heap.size + 1) 27 #[.int .i64 0, .string ⟨#[]⟩, .int .i64 0, .slice none 0 0] ∧ Blk wr (w.heap.size + 2) 27 #[.int .i64 9, sv s, .int .i64 n, v] ∧ OR wr (w.heap.size + 3) v ((l.map Rep.pln).take i) ∧ Below w.heap.size w wr ∧ w.heap.size + 3 ≤ wr.heap.size) (fun x _ => m - (intOf x).toNat)
  case atStart => exact ⟨0, _, Nat.zero_le _, rfl, HB1.out, HB2.out, HB3.out, by rw [List.take_zero]; exact OR.nil _ _, HB.out, by simp⟩
  case round =>
    obtain ⟨i, v, him, rfl, hB1, hB2, hB3, hO, hbel, hsz⟩ := hrel
    rcases Nat.lt_or_ge i m with hlt | hge
    · obtain ⟨a1, r1, E1, f1, rfl, hSa1, hr1, hv1, p0, p1, p2, p3⟩ := (HD.out.keep (fun p hp => hbel.cell hp)).at_ (HL.out.keep (fun p hp => hbel.cell hp)) HN.out (Nat.lt_of_lt_of_le hlt hmN)
      have hlt' : (i : Int) < (m : Int) := by omega
      have hltN : (i : Int) < (N : Int) := by omega
      have hi0 : (0 : Int) ≤ (i : Int) := by omega
      obtain ⟨e, rfl, hoe⟩ := hsub r1 (List.mem_of_getElem? hr1)
      have HT := Lib.hid (show (l.map Rep.pln).take (i + 1) = (l.map Rep.pln).take i ++ [r1.pln] by
        obtain ⟨h1, h2⟩ := List.getElem?_eq_some_iff.1 hr1
        rw [List.take_succ_eq_append_getElem (by simpa using h1), List.getElem_map, h2])
      have HTl := Lib.hid (show ((l.map Rep.pln).take i).length = i by rw [List.length_take, List.length_map, HN.out]; omega)
      obtain ⟨acc, hacc⟩ : ∃ acc, (l.map Rep.pln).take i = acc := ⟨_, rfl⟩
      rw [hacc] at hO HT HTl
      obtain ⟨xs1, hown, hrl⟩ := hO
      rw [HTl.out] at hown
      obtain ⟨Av, cv, rfl⟩ := hown.sliceForm
      have HC := Lib.hid (ih r1 (List.mem_of_getElem? hr1) e wr.drew [.int .i64 r1.k, sv r1.s, .int .i64 r1.n, .slice E1 r1.l.length f1] hoe (RV.drew_ (w := wr) (RV.mono (fun b hb => Nat.lt_of_lt_of_le hb hbel.size) hv1)))
      have c3 := hB3.cell 3
      have c13 := hB1.cell 3
      have hb1 : Below wr.heap.size wr wr := Below.refl _ _
      have HB1' := Lib.hid hb1
      have hgo : ∀ kk, (Value.slice Av i cv).ownBlock = some kk → w.heap.size + 3 ≤ kk := fun kk hkk => (hown.lt kk hkk).1
      clear hacc hv1 hr1 hb1
      go_wp2_with fail
      go_region_law (first
          | (refine step_call (by rfl) 14 #[.tmp 77] _ (by rfl) _ HC.out (by simp [Act.eval]) enter_plain ?_; rintro e w1 ⟨⟨E2, f2, rfl, hv⟩, hb2⟩; refine ⟨_, rfl, ?_⟩; have hbx : Below wr.heap.size wr w1 := HB1'.out.drew.trans hb2; have hB3' := hB3.below hbx hB3.lt; have hB1x := hB1.below hbx hB1.lt; have hown1 := hown.below_ hbx; have c3' := (hB3'.alloc (.cells #[.int .i64 r1.pln.k, sv r1.pln.s, .int .i64 r1.pln.n, .slice E2 r1.pln.l.length f2] 27)).cell 3; have c3'' := hB3'.cell 3; have hsz1 : w.heap.size + 3 ≤ w1.heap.size := Nat.le_trans hsz hbx.size; have hlit : Own (w1.alloc (.cells #[.int .i64 r1.pln.k, sv r1.pln.s, .int .i64 r1.pln.n, .slice E2 r1.pln.l.length f2] 27)) (w.heap.size + 3) 27 4 (.slice (some ⟨w1.heap.size, 0, none⟩) 1 1) 1 [.int .i64 r1.pln.k, sv r1.pln.s, .int .i64 r1.pln.n, .slice E2 r1.pln.l.length f2] := Own.lit (base := w.heap.size + 3) (e := 27) (size := 4) w1 #[.int .i64 r1.pln.k, sv r1.pln.s, .int .i64 r1.pln.n, .slice E2 r1.pln.l.length f2] 1 hsz1 (by decide) rfl; have HB12 := Lib.hid (hB3'.alloc (.cells #[.int .i64 r1.pln.k, sv r1.pln.s, .int .i64 r1.pln.n, .slice E2 r1.pln.l.length f2] 27)); have hone : ∀ v ∈ ([.int .i64 r1.pln.k, sv r1.pln.s, .int .i64 r1.pln.n, .slice E2 r1.pln.l.length f2] : List Value), v.oneCell' = true := (by intro v hv; simp at hv; rcases hv with rfl | rfl | rfl | rfl <;> rfl))
          | (refine (step_append_Own _ (by rfl) (.tmp 72) (.tmp 79) _ _ (by rfl) (w.heap.size + 3) 27 i0 _ 4 56 Tryd.underlying25 hi hz0 hz1 hz2 rfl (.slice Av i cv) i xs1 (by rfl) (hown1.alloc _) _ 1 [.int .i64 r1.pln.k, sv r1.pln.s, .int .i64 r1.pln.n, .slice E2 r1.pln.l.length f2] (by rfl) (Src.own hlit Tryd.underlying25 hone (by decide)) (by unfold maxLen; omega) (by omega) (by simp; omega) ?_); intro v4 w4 hO4 hg4 hat; obtain ⟨A4, c4, rfl⟩ := hO4.sliceForm; have hB13 := HB12.out.grown hg4 (fun e => by have := hgo _ e.symm; omega); have j3 := hB13.cell 3; have z3 := hB13.frozen 3))
      all_goals
        have hrl4 := RLs.push hsz hown hrl hbx (RV.mono (fun b hb => hb) hv) ((Below.refl w1.heap.size w1).alloc (Nat.le_refl _) (.cells #[.int .i64 r1.pln.k, sv r1.pln.s, .int .i64 r1.pln.n, .slice E2 r1.pln.l.length f2] 27)) hg4 (by simpa using hat)
        have hO5 : OR (w4.setCell ⟨w.heap.size + 2, 3, none⟩ (.slice A4 (i + 1) c4)) (w.heap.size + 3) (.slice A4 (i + 1) c4) ((l.map Rep.pln).take (i + 1)) := by
          have h4 : OR w4 (w.heap.size + 3) (.slice A4 (i + 1) c4) ((l.map Rep.pln).take (i + 1)) :=
            ⟨xs1 ++ [.int .i64 r1.pln.k, sv r1.pln.s, .int .i64 r1.pln.n, .slice E2 r1.pln.l.length f2], by rw [HT.out, List.length_append, HTl.out]; exact hO4, by rw [HT.out]; exact hrl4⟩
          exact h4.far (by omega) 3 _
        have hB15 : Blk (w4.setCell ⟨w.heap.size + 2, 3, none⟩ (.slice A4 (i + 1) c4)) w.heap.size 27 #[.int .i64 9, sv s, .int .i64 n, .slice (some a1) N c] := ((hB1x.alloc _).grown hg4 (fun e => by have := hgo _ e.symm; omega)).far (by simp) _
        have hB25 : Blk (w4.setCell ⟨w.heap.size + 2, 3, none⟩ (.slice A4 (i + 1) c4)) (w.heap.size + 1) 27 #[.int .i64 0, .string ⟨#[]⟩, .int .i64 0, .slice none 0 0] := (((hB2.below hbx hB2.lt).alloc _).grown hg4 (fun e => by have := hgo _ e.symm; omega)).far (by simp) _
        have hB35 : Blk (w4.setCell ⟨w.heap.size + 2, 3, none⟩ (.slice A4 (i + 1) c4)) (w.heap.size + 2) 27 #[.int .i64 9, sv s, .int .i64 n, .slice A4 (i + 1) c4] := hB13.set_ 3 _
        have hbf : Below w.heap.size w (w4.setCell ⟨w.heap.size + 2, 3, none⟩ (.slice A4 (i + 1) c4)) :=
          below_set (((hbel.trans (hbx.mono hbel.size)).alloc (Nat.le_trans hbel.size hbx.size) _).grown hg4 (by have := hbel.size; have := hbx.size; simp; omega) (fun k hk => by have := hgo k hk; omega)) (by omega) 3 _
        have hszf : w.heap.size + 3 ≤ (w4.setCell ⟨w.heap.size + 2, 3, none⟩ (.slice A4 (i + 1) c4)).heap.size := by
          rw [World.setCell_size]; have := hg4.size; simp at this; omega
        have HH := Lib.hid (And.intro hB15 (And.intro hB25 (And.intro hB35 (And.intro hO5 (And.intro hbf hszf)))))
        clear hB15 hB25 hB35 hO5 hbf hszf hrl4
        go_wp2_with fail
        go_roundw
        case rel =>
          first
            | exact ⟨i + 1, _, by omega, by go_num, HH.out.1, HH.out.2.1, HH.out.2.2.1, HH.out.2.2.2.1, HH.out.2.2.2.2.1, HH.out.2.2.2.2.2⟩
            | ((repeat apply Exists.intro); exact ⟨⟨i + 1, _, by omega, by go_num, HH.out.1, HH.out.2.1, HH.out.2.2.1, HH.out.2.2.2.1, HH.out.2.2.2.2.1, HH.out.2.2.2.2.2⟩, rfl⟩)
        case measure => simp [intOf]; omega
    · have hiN : i = m := by omega
      have hge2 : ¬ (i : Int) < (N : Int) := by have := HM2.out; omega
      subst hiN
      obtain ⟨Av, cv, rfl⟩ := hO.form
      rw [HMl.out] at hB3 hO
      have k0 := hB2.cell 0
      have k1 := hB2.cell 1
      have k2 := hB2.cell 2
      have k3 := hB2.cell 3
      have z0 := hB2.frozen 0
      have z1 := hB2.frozen 1
      have z2 := hB2.frozen 2
      have z3 := hB2.frozen 3
      have j0 := hB3.cell 0
      have j1 := hB3.cell 1
      have j2 := hB3.cell 2
      have j3 := hB3.cell 3
      go_wp2_with fail
      refine bodyPost_ret (ret_cell1 rfl _ _ (w.heap.size + 1) _ _ _ _ _ rfl (hB2.put4 _ _ _ _)) rfl ?_
      rw [HF.out]
      have hOp := hO.put4 (g := w.heap.size + 1) (by omega) (.int .i64 9) (sv s) (.int .i64 n) (.slice Av i cv)
      have hrv := OR.rv (k := 9) (n := n) (s := s) (S := New w (put4 wr (w.heap.size + 1) (.int .i64 9) (sv s) (.int .i64 n) (.slice Av i cv))) hOp (by unfold fits; omega) Hn.out Hs.out HMl.out.symm (fun b h1 h2 => ⟨by omega, h2⟩)
      refine ⟨⟨Av, cv, ?_, hrv⟩, put4_below hbel _ (by omega) _ _ _ _⟩
      show Ending.returned (.agg #[.int .i64 9, sv s, .int .i64 n, .slice Av i cv]) = Ending.returned (.agg #[.int .i64 9, sv s, .int .i64 n, .slice Av ((l.map Rep.pln).take i).length cv])
      rw [HMl.out]

theorem plain_any : ∀ (N : Nat) (r : Rep), SizeOf.sizeOf r ≤ N → PlainAt r
  | 0, r, h => by cases r; simp at h
  | N + 1, .mk k s n l, h => by
    have ih : ∀ r ∈ l, PlainAt r := fun r hr => plain_any N r (by have := sizeOf_mem (k := k) (n := n) (s := s) hr; omega)
    by_cases h1 : k = 1
    · subst h1; exact plain_line1 s n l
    by_cases h2 : k = 2
    · subst h2; exact plain_line2 s n l
    by_cases h3 : k = 3
    · subst h3; exact plain_int s n l
    by_cases h4 : k = 4
    · subst h4; exact plain_bulk s n l
    by_cases h7 : k = 7
    · subst h7; exact plain_parts7 s n l ih
    by_cases h8 : k = 8
    · subst h8; exact plain_parts8 s n l ih
    by_cases h9 : k = 9
    · subst h9; exact plain_parts9 s n l ih
    exact plain_null k h1 h2 h3 h4 h7 h8 h9 s n l
end Go.Proofs.YtjdnpgdedbegfaaDoor
