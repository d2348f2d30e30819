/- The walk of reply's Sorted. -/
import Derived.Test.YtjefpnhffdeekaaRplL
namespace Go.Proofs.Ytjefpnhffdeekaa
open Go.RowKit
set_option linter.unusedVariables false

set_option maxRecDepth 100000 in
set_option maxHeartbeats 16000000 in
theorem sorted_step (k : Int) (s : List UInt8) (n : Int) (l : List Rep) (ih : ∀ r ∈ l, SrtAt r) : SrtAt (.mk k s n l) := by
  intro w cs hok hr
  obtain ⟨i0, hi, hz0, hz1, hz2⟩ := info_parts repinfo
  obtain ⟨hl19, hoks⟩ : l.length ≤ 19 ∧ okSs l := by unfold okS at hok; exact hok
  obtain ⟨L, rfl, hL, hk1, hn1, hs1⟩ := hr.parts
  obtain ⟨A0, c0, xs0, rfl, _⟩ := id hL
  have HBARE := Lib.hid (fun w1 => bare_any k s n A0 l.length c0 w1)
  have hP1 : LivL w (if prt k then .slice A0 l.length c0 else .slice none 0 0) (if prt k then l else []) := by
    split
    · exact hL
    · exact LivL.nil w
  have HF := Lib.hid (psrt_mk k s n l)
  unfold bareRet at HBARE
  have hl1' : (if prt k then l else []).length ≤ 19 := by split <;> first | exact hl19 | simp
  have hmem : ∀ r ∈ (if prt k then l else []), r ∈ l := fun r hr => by
    split at hr
    · exact hr
    · cases hr
  have hkp : prt k = false → (if prt k then l else []) = [] := fun h => by rw [h]; rfl
  obtain ⟨S1, h1⟩ : ∃ S, (if txt k then s else []) = S := ⟨_, rfl⟩
  obtain ⟨N1, h3⟩ : ∃ S, (if k = 3 then n else 0) = S := ⟨_, rfl⟩
  obtain ⟨l1, h5⟩ : ∃ S, (if prt k then l else []) = S := ⟨_, rfl⟩
  obtain ⟨v1, h7⟩ : ∃ S, (if prt k then Value.slice A0 l.length c0 else .slice none 0 0) = S := ⟨_, rfl⟩
  have hS1 : S1.length ≤ maxLen := by rw [← h1]; split <;> first | exact hs1 | exact Nat.zero_le _
  have hN1 : fits N1 := by rw [← h3]; split <;> first | exact hn1 | (unfold fits; omega)
  rw [h1, h3, h7] at HBARE
  rw [h5, h7] at hP1
  rw [h5] at hl1' hmem hkp
  rw [h1, h3, h5] at HF
  obtain ⟨nl, hnl⟩ : ∃ n, l.length = n := ⟨_, rfl⟩
  rw [hnl] at HBARE ⊢
  obtain ⟨A, c, xs, rfl, hlc1, hcm1, hd1, hl1⟩ := hP1
  obtain ⟨N, hN⟩ : ∃ N, l1.length = N := ⟨_, rfl⟩
  have HN := Lib.hid hN
  rw [hN] at hlc1 hl1' hd1 HBARE
  have HD := Lib.hid hd1
  have HL := Lib.hid hl1
  have HKP := Lib.hid hkp
  have HMEM := Lib.hid hmem
  have HOKS := Lib.hid hoks
  have hc1 : c ≤ 9223372036854775807 := by unfold maxLen at hcm1; omega
  have HX0 := Lib.hid (show Below w.heap.size w ((w.alloc (.cells #[.int .i64 k, sv s, .int .i64 n, .slice A0 nl c0] 25)).alloc (.cells #[.int .i64 0, .string ⟨#[]⟩, .int .i64 0, .slice none 0 0] 25)) from ((Below.refl _ _).alloc (Nat.le_refl _) _).alloc (by simp) _)
  have HX1 := Lib.hid (show Blk ((w.alloc (.cells #[.int .i64 k, sv s, .int .i64 n, .slice A0 nl c0] 25)).alloc (.cells #[.int .i64 0, .string ⟨#[]⟩, .int .i64 0, .slice none 0 0] 25)) w.heap.size 25 #[.int .i64 k, sv s, .int .i64 n, .slice A0 nl c0] from (Blk.new w _ _).alloc _)
  have HX2 := Lib.hid (show Blk ((w.alloc (.cells #[.int .i64 k, sv s, .int .i64 n, .slice A0 nl c0] 25)).alloc (.cells #[.int .i64 0, .string ⟨#[]⟩, .int .i64 0, .slice none 0 0] 25)) (w.heap.size + 1) 25 #[.int .i64 0, .string ⟨#[]⟩, .int .i64 0, .slice none 0 0] by
    have := Blk.new (w.alloc (.cells #[.int .i64 k, sv s, .int .i64 n, .slice A0 nl c0] 25)) 25 #[.int .i64 0, .string ⟨#[]⟩, .int .i64 0, .slice none 0 0]
    simpa using this)
  clear hok hd1 hl1 hN hr hL h1 h3 h5 h7 hnl hkp hmem hoks hs1 hn1 hl19
  go_enter Try.func6, Try.ntmps6
  go_wp2_with fail
  refine (HBARE.out _).mono ?_
  rintro e w1 ⟨rfl, hb1⟩
  have HB1 := Lib.hid (HX0.out.trans (hb1.mono HX0.out.size))
  have HY1 := Lib.hid (HX1.out.below hb1 HX1.out.lt)
  have HY2 := Lib.hid (HX2.out.below hb1 HX2.out.lt)
  have hG : w.heap.size + 2 ≤ w1.heap.size := by have := hb1.size; simp at this; omega
  clear hb1
  go_wp2_with fail
  have HB3 := Lib.hid (Blk.new w1 25 #[.int .i64 k, sv S1, .int .i64 N1, .slice none 0 0])
  have HBW := Lib.hid (HB1.out.alloc HB1.out.size (.cells #[.int .i64 k, sv S1, .int .i64 N1, .slice none 0 0] 25))
  have HZ1 := Lib.hid (HY1.out.alloc (.cells #[.int .i64 k, sv S1, .int .i64 N1, .slice none 0 0] 25))
  have HZ2 := Lib.hid (HY2.out.alloc (.cells #[.int .i64 k, sv S1, .int .i64 N1, .slice none 0 0] 25))
  obtain ⟨G, hGe⟩ : ∃ G, w1.heap.size = G := ⟨_, rfl⟩
  have HGE := Lib.hid hGe
  rw [hGe] at HB3 hG
  rw [hGe]
  clear hGe
  go_loopw [16] (fun x wr => ∃ i v, i ≤ N ∧ x = .int .i64 (i : Nat) ∧ Blk wr w.heap.size 25 #[.int .i64 k, sv s, .int .i64 n, .slice A0 nl c0] ∧ Blk wr (w.heap.size + 1) 25 #[.int .i64 0, .string ⟨#[]⟩, .int .i64 0, .slice none 0 0] ∧ Blk wr G 25 #[.int .i64 k, sv S1, .int .i64 N1, v] ∧ OR wr (G + 1) v ((l1.map psrt).take i) ∧ Below w.heap.size w wr ∧ G + 1 ≤ wr.heap.size) (fun x _ => N - (nOf x).toNat)
  case atStart => exact ⟨0, _, Nat.zero_le _, rfl, HZ1.out, HZ2.out, HB3.out, by rw [List.take_zero]; exact OR.nil _ _, HBW.out, by rw [World.size_alloc, HGE.out]; omega⟩
  case round =>
    obtain ⟨i, v, him, rfl, hB1, hB2, hB3, hO, hbel, hsz⟩ := hrel
    rcases Nat.lt_or_ge i N with hlt | hge
    · obtain ⟨a1, r1, E1, f1, rfl, hSa1, hr1, hv1, p0, p1, p2, p3⟩ := (HD.out.keep (fun p hp => hbel.cell hp)).at_ (HL.out.keep (fun p hp => hbel.cell hp)) HN.out hlt
      have hlt' : (i : Int) < (N : Int) := by omega
      have hmem1 := HMEM.out r1 (List.mem_of_getElem? hr1)
      have HT := Lib.hid (map_take_succ psrt l1 i hr1)
      have HTl := Lib.hid (show ((l1.map psrt).take i).length = i by rw [List.length_take, List.length_map, HN.out]; omega)
      obtain ⟨acc, hacc⟩ : ∃ acc, (l1.map psrt).take i = acc := ⟨_, rfl⟩
      rw [hacc] at hO HT HTl
      obtain ⟨xs1, hown, hrl⟩ := hO
      rw [HTl.out] at hown
      obtain ⟨Av, cv, rfl⟩ := hown.sliceForm
      have HC := Lib.hid (ih r1 hmem1 (wr.alloc (.cells #[.int .i64 r1.k, sv r1.s, .int .i64 r1.n, .slice E1 r1.l.length f1] 25)).drew [.int .i64 r1.k, sv r1.s, .int .i64 r1.n, .slice E1 r1.l.length f1] (okSs_mem HOKS.out hmem1)
        (RV.drew_ (w := wr.alloc (.cells #[.int .i64 r1.k, sv r1.s, .int .i64 r1.n, .slice E1 r1.l.length f1] 25)) (RV.mono (fun b hb => by have := hbel.size; show b < (wr.alloc _).heap.size; rw [World.size_alloc]; omega) (hv1.keep (fun p hp => World.cell?_alloc_lt wr _ p (Nat.lt_of_lt_of_le hp hbel.size))))))
      have hb1 := (Below.refl wr.heap.size wr).alloc (Nat.le_refl _) (.cells #[.int .i64 r1.k, sv r1.s, .int .i64 r1.n, .slice E1 r1.l.length f1] 25)
      have c3 := (hB3.alloc (.cells #[.int .i64 r1.k, sv r1.s, .int .i64 r1.n, .slice E1 r1.l.length f1] 25)).cell 3
      clear hacc hv1 hr1
      have hB5 := Blk.new wr 25 #[.int .i64 r1.k, sv r1.s, .int .i64 r1.n, .slice E1 r1.l.length f1]
      have HB1' := Lib.hid hb1
      have HB1o := Lib.hid hB1
      have HB2o := Lib.hid hB2
      have hgo : ∀ kk, (Value.slice Av i cv).ownBlock = some kk → G + 1 ≤ kk := fun kk hkk => (hown.lt kk hkk).1
      clear hB1 hB2
      go_wp2_with fail
      have hs0 := hB5.x4
      go_region_law (first
          | (refine step_call (by rfl) 6 #[.tmp 22] _ (by rfl) _ HC.out (by simp [Act.eval]) enter_sorted ?_; rintro e w1 ⟨⟨E2, f2, rfl, hv⟩, hb2⟩; refine ⟨_, rfl, ?_⟩; have hbx : Below wr.heap.size wr w1 := (HB1'.out.drew.trans (hb2.mono (by show _ ≤ (wr.alloc _).heap.size; simp))); have hB3' := hB3.below hbx hB3.lt; have hB5' := Blk.below (w := (wr.alloc (.cells #[.int .i64 r1.k, sv r1.s, .int .i64 r1.n, .slice E1 r1.l.length f1] 25)).drew) hB5 hb2 hB5.lt; have hs1 := hB5'.x4; have hs2 := (hB5'.alloc (.cells #[.int .i64 (psrt r1).k, sv (psrt r1).s, .int .i64 (psrt r1).n, .slice E2 (psrt r1).l.length f2] 25)).x4; have hown1 := hown.below_ hbx; have c3' := (hB3'.alloc (.cells #[.int .i64 (psrt r1).k, sv (psrt r1).s, .int .i64 (psrt r1).n, .slice E2 (psrt r1).l.length f2] 25)).cell 3; have c3'' := hB3'.cell 3; have hsz1 : G + 1 ≤ w1.heap.size := Nat.le_trans hsz hbx.size; have hlit : Own (w1.alloc (.cells #[.int .i64 (psrt r1).k, sv (psrt r1).s, .int .i64 (psrt r1).n, .slice E2 (psrt r1).l.length f2] 25)) (G + 1) 25 4 (.slice (some ⟨w1.heap.size, 0, none⟩) 1 1) 1 [.int .i64 (psrt r1).k, sv (psrt r1).s, .int .i64 (psrt r1).n, .slice E2 (psrt r1).l.length f2] := Own.lit (base := G + 1) (e := 25) (size := 4) w1 #[.int .i64 (psrt r1).k, sv (psrt r1).s, .int .i64 (psrt r1).n, .slice E2 (psrt r1).l.length f2] 1 hsz1 (by decide) rfl; have HB12 := Lib.hid (hB3'.alloc (.cells #[.int .i64 (psrt r1).k, sv (psrt r1).s, .int .i64 (psrt r1).n, .slice E2 (psrt r1).l.length f2] 25)); have HB52 := Lib.hid (hB5'.alloc (.cells #[.int .i64 (psrt r1).k, sv (psrt r1).s, .int .i64 (psrt r1).n, .slice E2 (psrt r1).l.length f2] 25)); have hone : ∀ v ∈ ([.int .i64 (psrt r1).k, sv (psrt r1).s, .int .i64 (psrt r1).n, .slice E2 (psrt r1).l.length f2] : List Value), v.oneCell' = true := (by intro v hv; simp at hv; rcases hv with rfl | rfl | rfl | rfl <;> rfl))
          | (refine (step_append_Own _ (by rfl) (.tmp 21) (.tmp 24) _ _ (by rfl) (G + 1) 25 i0 _ 4 56 Try.underlying23 hi hz0 hz1 hz2 rfl (.slice Av i cv) i xs1 (by rfl) (hown1.alloc _) _ 1 [.int .i64 (psrt r1).k, sv (psrt r1).s, .int .i64 (psrt r1).n, .slice E2 (psrt r1).l.length f2] (by rfl) (Src.own hlit Try.underlying23 hone (by decide)) (by unfold maxLen; omega) (by omega) (by simp; omega) ?_); intro v4 w4 hO4 hg4 hat; obtain ⟨A4, c4, rfl⟩ := hO4.sliceForm; have hB13 := HB12.out.grown hg4 (fun e => by have := hgo _ e.symm; omega); have hB53 := HB52.out.grown hg4 (fun e => by have := (hown.lt _ e.symm).2; omega); have hs3 := hB53.x4; have hs4 := (hB53.far (p := ⟨G, 3, none⟩) (by simp; omega) (.slice A4 (i + 1) c4)).x4; have j3 := hB13.cell 3; have z3 := hB13.frozen 3))
      all_goals
        have hrl4 := RLs.push hsz hown hrl hbx (RV.mono (fun b hb => ⟨Nat.le_trans HB1'.out.size hb.1, hb.2⟩) hv) ((Below.refl w1.heap.size w1).alloc (Nat.le_refl _) (.cells #[.int .i64 (psrt r1).k, sv (psrt r1).s, .int .i64 (psrt r1).n, .slice E2 (psrt r1).l.length f2] 25)) hg4 (by simpa using hat)
        have hO5 : OR (w4.setCell ⟨G, 3, none⟩ (.slice A4 (i + 1) c4)) (G + 1) (.slice A4 (i + 1) c4) ((l1.map psrt).take (i + 1)) := by
          have h4 : OR w4 (G + 1) (.slice A4 (i + 1) c4) ((l1.map psrt).take (i + 1)) :=
            ⟨xs1 ++ [.int .i64 (psrt r1).k, sv (psrt r1).s, .int .i64 (psrt r1).n, .slice E2 (psrt r1).l.length f2], by rw [HT.out, List.length_append, HTl.out]; exact hO4, by rw [HT.out]; exact hrl4⟩
          exact h4.far (by omega) 3 _
        have hB15 : Blk (w4.setCell ⟨G, 3, none⟩ (.slice A4 (i + 1) c4)) w.heap.size 25 #[.int .i64 k, sv s, .int .i64 n, .slice A0 nl c0] := (((HB1o.out.below hbx HB1o.out.lt).alloc _).grown hg4 (fun e => by have := hgo _ e.symm; omega)).far (by simp; omega) _
        have hB25 : Blk (w4.setCell ⟨G, 3, none⟩ (.slice A4 (i + 1) c4)) (w.heap.size + 1) 25 #[.int .i64 0, .string ⟨#[]⟩, .int .i64 0, .slice none 0 0] := (((HB2o.out.below hbx HB2o.out.lt).alloc _).grown hg4 (fun e => by have := hgo _ e.symm; omega)).far (by simp; omega) _
        have hB35 : Blk (w4.setCell ⟨G, 3, none⟩ (.slice A4 (i + 1) c4)) G 25 #[.int .i64 k, sv S1, .int .i64 N1, .slice A4 (i + 1) c4] := hB13.set_ 3 _
        have hbf : Below w.heap.size w (w4.setCell ⟨G, 3, none⟩ (.slice A4 (i + 1) c4)) :=
          below_set (((hbel.trans (hbx.mono hbel.size)).alloc (Nat.le_trans hbel.size hbx.size) _).grown hg4 (by have := hbel.size; have := hbx.size; simp; omega) (fun k hk => by have := hgo k hk; omega)) (by omega) 3 _
        have hszf : G + 1 ≤ (w4.setCell ⟨G, 3, none⟩ (.slice A4 (i + 1) c4)).heap.size := by
          rw [World.size_setCell]; have := hg4.size; simp at this; omega
        have HH := Lib.hid (And.intro hB15 (And.intro hB25 (And.intro hB35 (And.intro hO5 (And.intro hbf hszf)))))
        clear hB15 hB25 hB35 hO5 hbf hszf hrl4
        go_wp2_with fail
        go_roundw
        case rel =>
          first
            | exact ⟨i + 1, _, by omega, by go_num, HH.out.1, HH.out.2.1, HH.out.2.2.1, HH.out.2.2.2.1, HH.out.2.2.2.2.1, HH.out.2.2.2.2.2⟩
            | ((repeat apply Exists.intro); exact ⟨⟨i + 1, _, by omega, by go_num, HH.out.1, HH.out.2.1, HH.out.2.2.1, HH.out.2.2.2.1, HH.out.2.2.2.2.1, HH.out.2.2.2.2.2⟩, rfl⟩)
        case measure => simp [nOf]; omega
    · have hiN : i = N := by omega
      subst hiN
      have hfull : (l1.map psrt).take i = l1.map psrt := List.take_of_length_le (by rw [List.length_map, HN.out]; exact Nat.le_refl _)
      rw [hfull] at hO
      have HLen := Lib.hid (show (l1.map psrt).length = i by rw [List.length_map, HN.out])
      obtain ⟨Lp, hLp⟩ : ∃ L, l1.map psrt = L := ⟨_, rfl⟩
      rw [hLp] at hO HLen HF
      clear hfull hLp
      obtain ⟨Av, cv, rfl⟩ := hO.form
      rw [HLen.out] at hB3 hO
      have hi1 : ¬ (i : Int) < (i : Int) := by omega
      have m0 := hB1.cell 0
      have hgo : ∀ kk, (Value.slice Av i cv).ownBlock = some kk → G + 1 ≤ kk := fun kk hkk => (hO.lt kk hkk).1
      by_cases hk9 : k = 9
      · subst hk9
        have HS := Lib.hid (sort_or Lp wr hO (by rw [HLen.out]; exact hl1'))
        have c3 := hB3.cell 3
        have HB2o := Lib.hid hB2
        have HB3o := Lib.hid hB3
        have HBL := Lib.hid hbel
        clear hB1 hB2 hB3 hO hbel
        go_wp2_with fail
        refine HS.out.mono ?_
        rintro e w2 ⟨rfl, hor2, hgr2⟩
        have hb2 := HB2o.out.grown hgr2 (fun e => by have := hgo _ e.symm; omega)
        have hb3 := HB3o.out.grown hgr2 (fun e => by have := hgo _ e.symm; omega)
        have HEQ := Lib.hid (show isort lto Lp = arrO 9 Lp from rfl)
        have HLF := Lib.hid (show (isort lto Lp).length = i by rw [isort_len, HLen.out])
        have HOF := Lib.hid hor2
        have HBF := Lib.hid (HBL.out.grown hgr2 HBL.out.size (fun j hj => by have := hgo j hj; omega))
        clear c3 m0 hor2 hgr2
        have k0 := hb2.cell 0
        have k1 := hb2.cell 1
        have k2 := hb2.cell 2
        have k3 := hb2.cell 3
        have z0 := hb2.frozen 0
        have z1 := hb2.frozen 1
        have z2 := hb2.frozen 2
        have z3 := hb2.frozen 3
        have j0 := hb3.cell 0
        have j1 := hb3.cell 1
        have j2 := hb3.cell 2
        have j3 := hb3.cell 3
        go_wp2_with fail
        refine bodyPost_ret (ret_cell1 rfl _ _ (w.heap.size + 1) _ _ _ _ _ rfl (hb2.put4 _ _ _ _)) rfl ?_
        rw [HF.out]
        have hOp := HOF.out.put4 (g := w.heap.size + 1) (by omega) (.int .i64 9) (sv S1) (.int .i64 N1) (.slice Av i cv)
        have hrv := OR.rv (k := 9) (n := N1) (s := S1) (S := New w (put4 w2 (w.heap.size + 1) (.int .i64 9) (sv S1) (.int .i64 N1) (.slice Av i cv))) hOp hk1 hN1 hS1 HLF.out.symm (fun b h1 h2 => ⟨by omega, h2⟩)
        rw [← HEQ.out]
        refine ⟨⟨_, _, ?_, hrv⟩, put4_below HBF.out _ (by omega) _ _ _ _⟩
        show Ending.returned (.agg #[.int .i64 9, sv S1, .int .i64 N1, (.slice Av i cv)]) = _
        congr 2
        first | rfl | (simp only [Rep.l, HLF.out]; rfl)
      · by_cases hk8 : k = 8
        · subst hk8
          have HPA := Lib.hid (pairs_any Lp wr hO HLen.out (by omega) hsz)
          have HEQ8 := Lib.hid (show (isort ltpo (prs Lp)).flatten ++ lastOf Lp = arrO 8 Lp from rfl)
          have c3 := hB3.cell 3
          have HB2o := Lib.hid hB2
          have HB3o := Lib.hid hB3
          have HBL := Lib.hid hbel
          have HOo := Lib.hid hO
          have HSZ := Lib.hid hsz
          clear hB1 hB2 hB3 hO hbel
          go_wp2_with fail
          refine HPA.out.mono ?_
          rintro e w2 ⟨v2, rfl, hpr, hlo, hb2⟩
          obtain ⟨A2, c2, rfl⟩ := hpr.form
          obtain ⟨q, hq⟩ : ∃ q, (prs Lp).length = q := ⟨_, rfl⟩
          have hq2 : q = i / 2 := by rw [← hq, prs_len, HLen.out]
          rw [hq] at hpr hlo ⊢
          have HQ := Lib.hid hq
          have HQ2 := Lib.hid hq2
          have HPR := Lib.hid hpr
          have HLO := Lib.hid hlo
          have HB2w := Lib.hid hb2
          have c3' := (HB3o.out.below hb2 HB3o.out.lt).cell 3
          have hcap : i ≤ cv ∧ cv ≤ maxLen := by
            obtain ⟨xs9, h9, _⟩ := id HOo.out
            rw [HLen.out] at h9
            exact Own.caps h9
          clear hq hpr hlo hb2 c3 hq2
          have g1 : (2 : Int) * (q : Int) ≤ (i : Int) := by have := HQ2.out; omega
          have g2 : (0 : Int) ≤ (2 : Int) * (q : Int) := by omega
          have hxs : ∃ xs9, Own wr (G + 1) 25 4 (.slice Av i cv) i xs9 ∧ RLs wr (fun b => G + 1 ≤ b ∧ b < wr.heap.size ∧ some b ≠ (Value.slice Av i cv).ownBlock) Lp xs9 := by
            obtain ⟨xs9, h8, h9⟩ := id HOo.out
            rw [HLen.out] at h8
            exact ⟨xs9, h8, h9⟩
          obtain ⟨xs9, ho9, hr9⟩ := hxs
          have hq2 : 2 * q ≤ i := by have := HQ2.out; omega
          have hreads := (ho9.own_reads (Nat.le_refl _)).cut hq2 hcap.1
          have hrl9 := RLs.drop (2 * q) hr9
          rw [show Lp.drop (2 * q) = lastOf Lp by rw [lastOf_drop, HLen.out, HQ2.out]] at hrl9
          have HRE := Lib.hid hreads
          have HRL9 := Lib.hid hrl9
          have HO9 := Lib.hid ho9
          have HSO := Lib.hid (sort2_or (prs Lp) w2 HPR.out (by rw [HQ.out]; have := HQ2.out; omega))
          clear hreads hrl9 ho9 hr9
          by_cases hcv : cv = 2 * q
          · have g3 : ¬ 2 * q < cv := by omega
            rw [if_pos hcv] at HRE
            go_wp2_with fail
            refine HSO.out.mono ?_
            rintro e w3 ⟨rfl, hpr3, hgr3⟩
            have hgo2 : ∀ b, b < wr.heap.size → some b ≠ (Value.slice A2 q c2).ownBlock := fun b hb e => by have := HLO.out b e.symm; omega
            have hpl : (isort ltpo (prs Lp)).length = q := by rw [isort_len, HQ.out]
            have h2s : ∀ p ∈ isort ltpo (prs Lp), p.length = 2 := fun p hp => prs_two p ((isort_perm ltpo (prs Lp)).mem_iff.1 hp)
            have hfl := prs_flat_len _ h2s
            rw [hpl] at hfl
            have hs3 : G + 1 ≤ w3.heap.size := Nat.le_trans HSZ.out (Nat.le_trans HB2w.out.size hgr3.size)
            have HCO := Lib.hid (concat_any (isort ltpo (prs Lp)) w3 hpr3 (by rw [hpl]; omega) (by rw [hfl]; omega) hs3)
            have HK3 := Lib.hid (fun p : Addr => (fun hp => (World.cell?_of_block (hgr3.block _ (Nat.lt_of_lt_of_le hp HB2w.out.size) (hgo2 _ hp))).trans (HB2w.out.cell hp) : p.block < wr.heap.size → w3.cell? p = wr.cell? p))
            have hb2' := (HB2o.out.below HB2w.out HB2o.out.lt).grown hgr3 (hgo2 _ (by have := HB2o.out.lt; exact this))
            have hb3' := (HB3o.out.below HB2w.out HB3o.out.lt).grown hgr3 (hgo2 _ (by have := HB3o.out.lt; exact this))
            have hbl3 : Below w.heap.size w w3 := (HBL.out.trans (HB2w.out.mono HBL.out.size)).grown hgr3 (Nat.le_trans HBL.out.size HB2w.out.size) (fun j hj => by have := HLO.out j hj; have := HBL.out.size; omega)
            have hsz3 : wr.heap.size ≤ w3.heap.size := Nat.le_trans HB2w.out.size hgr3.size
            have HFL := Lib.hid hfl
            clear hpr3 hgr3 hpl h2s hfl c3' m0
            go_wp2_with fail
            refine HCO.out.mono ?_
            rintro e w4 ⟨v5, rfl, hor5, hb5, hlo5⟩
            obtain ⟨A5, c5, rfl⟩ := hor5.form
            obtain ⟨xs5, ho5, hr5⟩ := id hor5
            rw [HFL.out] at ho5 hlo5 hr5 ⊢
            have hk4 : ∀ p : Addr, p.block < wr.heap.size → w4.cell? p = wr.cell? p := fun p hp => (hb5.cell (Nat.lt_of_lt_of_le hp hsz3)).trans (HK3.out p hp)
            have hsz4 : wr.heap.size ≤ w4.heap.size := Nat.le_trans hsz3 hb5.size
            have hrl4 : RLs w4 (fun b => G + 1 ≤ b ∧ b < w4.heap.size ∧ some b ≠ (Value.slice A5 (2 * q) c5).ownBlock) (lastOf Lp) (xs9.drop (2 * q * 4)) := RLs.mono (fun b hb => ⟨hb.1, Nat.lt_of_lt_of_le hb.2.1 hsz4, fun e => by have := hlo5 b e.symm; have := hb.2.1; omega⟩) (RLs.keep (fun p hp => hk4 p hp.2.1) HRL9.out)
            have hsrc := Src.slice (P := Try.prog) (u := 23) (e' := 25) (c := cv - 2 * q) Try.underlying23 (HRE.out.keep hk4) hrl4.one1 (by decide)
            rw [show cv - 2 * q = 0 by omega] at hsrc
            have HB2f := Lib.hid (hb2'.below hb5 hb2'.lt)
            have HB3f := Lib.hid (hb3'.below hb5 hb3'.lt)
            have HBLf := Lib.hid (hbl3.trans (hb5.mono hbl3.size))
            have HSRC := Lib.hid hsrc
            have HO5 := Lib.hid ho5
            have HR5 := Lib.hid hr5
            have HRL4 := Lib.hid hrl4
            have HLO5 := Lib.hid hlo5
            have hs4 : G + 1 ≤ w4.heap.size := by have := HSZ.out; omega
            clear hb2' hb3' hbl3 hsrc ho5 hr5 hrl4 hlo5 hor5 hb5 hk4
            go_wp2_with (at_builtin
                         refine wpList_append_Own _ rfl (.tmp 49) (.tmp 50) _ _ rfl (G + 1) 25 i0 _ 4 56 Try.underlying23 hi hz0 hz1 hz2 rfl (.slice A5 (2 * q) c5) (2 * q) xs5 rfl HO5.out _ (i - 2 * q) (xs9.drop (2 * q * 4)) rfl HSRC.out (by unfold maxLen; omega) (by omega) hs4 ?_
                         intro v6 w5 hO6 hg6 hat6
                         rw [show 2 * q + (i - 2 * q) = i by omega] at hO6
                         obtain ⟨A6, c6, rfl⟩ := hO6.sliceForm
                         have hb36 := HB3f.out.grown hg6 (fun e => by have := HLO5.out _ e.symm; have := HSZ.out; omega)
                         have q3 := hb36.cell 3
                         have f3 := hb36.frozen 3
                         have hb3 : Blk (w5.setCell ⟨G, 3, none⟩ (.slice A6 i c6)) G 25 #[.int .i64 8, sv S1, .int .i64 N1, .slice A6 i c6] := hb36.set_ 3 _
                         have hb2 := (HB2f.out.grown hg6 (fun e => by have := HLO5.out _ e.symm; have := HSZ.out; omega)).far (p := ⟨G, 3, none⟩) (by simp; omega) (.slice A6 i c6)
                         have x3 := hb3.x4
                         have x2 := hb2.x4
                         have z0 := hb2.frozen 0
                         have z1 := hb2.frozen 1
                         have z2 := hb2.frozen 2
                         have z3 := hb2.frozen 3)
            have hll : (lastOf Lp).length = i - 2 * q := by rw [lastOf_drop, List.length_drop, HLen.out, HQ2.out]
            have h2q : 2 * q + (i - 2 * q) = i := by omega
            have hor6 : OR w5 (G + 1) (.slice A6 i c6) ((isort ltpo (prs Lp)).flatten ++ lastOf Lp) := OR.append hs4 (by rw [HFL.out]; exact HO5.out) HR5.out HRL4.out (by rw [HFL.out, hll, h2q]; exact hO6) hg6 hat6
            have hlen6 : ((isort ltpo (prs Lp)).flatten ++ lastOf Lp).length = i := by rw [List.length_append, HFL.out, hll]; omega
            have HLF := Lib.hid hlen6
            have HOF := Lib.hid (hor6.far (g := G) (by omega) 3 (.slice A6 i c6))
            have HBF := Lib.hid (below_set (HBLf.out.grown hg6 HBLf.out.size (fun j hj => by have := HLO5.out j hj; have := HBL.out.size; omega)) (g := G) (by omega) 3 (.slice A6 i c6))
            refine bodyPost_ret (ret_cell1 rfl _ _ (w.heap.size + 1) _ _ _ _ _ rfl (hb2.put4 _ _ _ _)) rfl ?_
            rw [HF.out]
            have hOp := HOF.out.put4 (g := w.heap.size + 1) (by omega) (.int .i64 8) (sv S1) (.int .i64 N1) (.slice A6 i c6)
            have hrv := OR.rv (k := 8) (n := N1) (s := S1) (S := New w (put4 (w5.setCell ⟨G, 3, none⟩ (.slice A6 i c6)) (w.heap.size + 1) (.int .i64 8) (sv S1) (.int .i64 N1) (.slice A6 i c6))) hOp hk1 hN1 hS1 HLF.out.symm (fun b h1 h2 => ⟨by omega, h2⟩)
            rw [← HEQ8.out]
            refine ⟨⟨_, _, ?_, hrv⟩, put4_below HBF.out _ (by omega) _ _ _ _⟩
            show Ending.returned (.agg #[.int .i64 8, sv S1, .int .i64 N1, (.slice A6 i c6)]) = _
            congr 2
            first | rfl | (simp only [Rep.l, HLF.out]; rfl)
          · have g3 : 2 * q < cv := by omega
            rw [if_neg hcv] at HRE
            go_wp2_with fail
            refine HSO.out.mono ?_
            rintro e w3 ⟨rfl, hpr3, hgr3⟩
            have hgo2 : ∀ b, b < wr.heap.size → some b ≠ (Value.slice A2 q c2).ownBlock := fun b hb e => by have := HLO.out b e.symm; omega
            have hpl : (isort ltpo (prs Lp)).length = q := by rw [isort_len, HQ.out]
            have h2s : ∀ p ∈ isort ltpo (prs Lp), p.length = 2 := fun p hp => prs_two p ((isort_perm ltpo (prs Lp)).mem_iff.1 hp)
            have hfl := prs_flat_len _ h2s
            rw [hpl] at hfl
            have hs3 : G + 1 ≤ w3.heap.size := Nat.le_trans HSZ.out (Nat.le_trans HB2w.out.size hgr3.size)
            have HCO := Lib.hid (concat_any (isort ltpo (prs Lp)) w3 hpr3 (by rw [hpl]; omega) (by rw [hfl]; omega) hs3)
            have HK3 := Lib.hid (fun p : Addr => (fun hp => (World.cell?_of_block (hgr3.block _ (Nat.lt_of_lt_of_le hp HB2w.out.size) (hgo2 _ hp))).trans (HB2w.out.cell hp) : p.block < wr.heap.size → w3.cell? p = wr.cell? p))
            have hb2' := (HB2o.out.below HB2w.out HB2o.out.lt).grown hgr3 (hgo2 _ (by have := HB2o.out.lt; exact this))
            have hb3' := (HB3o.out.below HB2w.out HB3o.out.lt).grown hgr3 (hgo2 _ (by have := HB3o.out.lt; exact this))
            have hbl3 : Below w.heap.size w w3 := (HBL.out.trans (HB2w.out.mono HBL.out.size)).grown hgr3 (Nat.le_trans HBL.out.size HB2w.out.size) (fun j hj => by have := HLO.out j hj; have := HBL.out.size; omega)
            have hsz3 : wr.heap.size ≤ w3.heap.size := Nat.le_trans HB2w.out.size hgr3.size
            have HFL := Lib.hid hfl
            clear hpr3 hgr3 hpl h2s hfl c3' m0
            go_wp2_with fail
            refine HCO.out.mono ?_
            rintro e w4 ⟨v5, rfl, hor5, hb5, hlo5⟩
            obtain ⟨A5, c5, rfl⟩ := hor5.form
            obtain ⟨xs5, ho5, hr5⟩ := id hor5
            rw [HFL.out] at ho5 hlo5 hr5 ⊢
            have hk4 : ∀ p : Addr, p.block < wr.heap.size → w4.cell? p = wr.cell? p := fun p hp => (hb5.cell (Nat.lt_of_lt_of_le hp hsz3)).trans (HK3.out p hp)
            have hsz4 : wr.heap.size ≤ w4.heap.size := Nat.le_trans hsz3 hb5.size
            have hrl4 : RLs w4 (fun b => G + 1 ≤ b ∧ b < w4.heap.size ∧ some b ≠ (Value.slice A5 (2 * q) c5).ownBlock) (lastOf Lp) (xs9.drop (2 * q * 4)) := RLs.mono (fun b hb => ⟨hb.1, Nat.lt_of_lt_of_le hb.2.1 hsz4, fun e => by have := hlo5 b e.symm; have := hb.2.1; omega⟩) (RLs.keep (fun p hp => hk4 p hp.2.1) HRL9.out)
            have hsrc := Src.slice (P := Try.prog) (u := 23) (e' := 25) (c := cv - 2 * q) Try.underlying23 (HRE.out.keep hk4) hrl4.one1 (by decide)
            have HB2f := Lib.hid (hb2'.below hb5 hb2'.lt)
            have HB3f := Lib.hid (hb3'.below hb5 hb3'.lt)
            have HBLf := Lib.hid (hbl3.trans (hb5.mono hbl3.size))
            have HSRC := Lib.hid hsrc
            have HO5 := Lib.hid ho5
            have HR5 := Lib.hid hr5
            have HRL4 := Lib.hid hrl4
            have HLO5 := Lib.hid hlo5
            have hs4 : G + 1 ≤ w4.heap.size := by have := HSZ.out; omega
            clear hb2' hb3' hbl3 hsrc ho5 hr5 hrl4 hlo5 hor5 hb5 hk4
            go_wp2_with (at_builtin
                         refine wpList_append_Own _ rfl (.tmp 49) (.tmp 50) _ _ rfl (G + 1) 25 i0 _ 4 56 Try.underlying23 hi hz0 hz1 hz2 rfl (.slice A5 (2 * q) c5) (2 * q) xs5 rfl HO5.out _ (i - 2 * q) (xs9.drop (2 * q * 4)) rfl HSRC.out (by unfold maxLen; omega) (by omega) hs4 ?_
                         intro v6 w5 hO6 hg6 hat6
                         rw [show 2 * q + (i - 2 * q) = i by omega] at hO6
                         obtain ⟨A6, c6, rfl⟩ := hO6.sliceForm
                         have hb36 := HB3f.out.grown hg6 (fun e => by have := HLO5.out _ e.symm; have := HSZ.out; omega)
                         have q3 := hb36.cell 3
                         have f3 := hb36.frozen 3
                         have hb3 : Blk (w5.setCell ⟨G, 3, none⟩ (.slice A6 i c6)) G 25 #[.int .i64 8, sv S1, .int .i64 N1, .slice A6 i c6] := hb36.set_ 3 _
                         have hb2 := (HB2f.out.grown hg6 (fun e => by have := HLO5.out _ e.symm; have := HSZ.out; omega)).far (p := ⟨G, 3, none⟩) (by simp; omega) (.slice A6 i c6)
                         have x3 := hb3.x4
                         have x2 := hb2.x4
                         have z0 := hb2.frozen 0
                         have z1 := hb2.frozen 1
                         have z2 := hb2.frozen 2
                         have z3 := hb2.frozen 3)
            have hll : (lastOf Lp).length = i - 2 * q := by rw [lastOf_drop, List.length_drop, HLen.out, HQ2.out]
            have h2q : 2 * q + (i - 2 * q) = i := by omega
            have hor6 : OR w5 (G + 1) (.slice A6 i c6) ((isort ltpo (prs Lp)).flatten ++ lastOf Lp) := OR.append hs4 (by rw [HFL.out]; exact HO5.out) HR5.out HRL4.out (by rw [HFL.out, hll, h2q]; exact hO6) hg6 hat6
            have hlen6 : ((isort ltpo (prs Lp)).flatten ++ lastOf Lp).length = i := by rw [List.length_append, HFL.out, hll]; omega
            have HLF := Lib.hid hlen6
            have HOF := Lib.hid (hor6.far (g := G) (by omega) 3 (.slice A6 i c6))
            have HBF := Lib.hid (below_set (HBLf.out.grown hg6 HBLf.out.size (fun j hj => by have := HLO5.out j hj; have := HBL.out.size; omega)) (g := G) (by omega) 3 (.slice A6 i c6))
            refine bodyPost_ret (ret_cell1 rfl _ _ (w.heap.size + 1) _ _ _ _ _ rfl (hb2.put4 _ _ _ _)) rfl ?_
            rw [HF.out]
            have hOp := HOF.out.put4 (g := w.heap.size + 1) (by omega) (.int .i64 8) (sv S1) (.int .i64 N1) (.slice A6 i c6)
            have hrv := OR.rv (k := 8) (n := N1) (s := S1) (S := New w (put4 (w5.setCell ⟨G, 3, none⟩ (.slice A6 i c6)) (w.heap.size + 1) (.int .i64 8) (sv S1) (.int .i64 N1) (.slice A6 i c6))) hOp hk1 hN1 hS1 HLF.out.symm (fun b h1 h2 => ⟨by omega, h2⟩)
            rw [← HEQ8.out]
            refine ⟨⟨_, _, ?_, hrv⟩, put4_below HBF.out _ (by omega) _ _ _ _⟩
            show Ending.returned (.agg #[.int .i64 8, sv S1, .int .i64 N1, (.slice A6 i c6)]) = _
            congr 2
            first | rfl | (simp only [Rep.l, HLF.out]; rfl)
        · have b9 : (k == 9) = false := by simpa using hk9
          have b8 : (k == 8) = false := by simpa using hk8
          have HEQ := Lib.hid (show Lp = arrO k Lp by unfold arrO; rw [if_neg hk9, if_neg hk8])
          have HLF := HLen
          have HOF := Lib.hid hO
          have HBF := Lib.hid hbel
          have hb2 := hB2
          have hb3 := hB3
          clear hB1 hB2 hB3 hO hbel hk9 hk8
          have k0 := hb2.cell 0
          have k1 := hb2.cell 1
          have k2 := hb2.cell 2
          have k3 := hb2.cell 3
          have z0 := hb2.frozen 0
          have z1 := hb2.frozen 1
          have z2 := hb2.frozen 2
          have z3 := hb2.frozen 3
          have j0 := hb3.cell 0
          have j1 := hb3.cell 1
          have j2 := hb3.cell 2
          have j3 := hb3.cell 3
          go_wp2_with fail
          refine bodyPost_ret (ret_cell1 rfl _ _ (w.heap.size + 1) _ _ _ _ _ rfl (hb2.put4 _ _ _ _)) rfl ?_
          rw [HF.out]
          have hOp := HOF.out.put4 (g := w.heap.size + 1) (by omega) (.int .i64 k) (sv S1) (.int .i64 N1) (.slice Av i cv)
          have hrv := OR.rv (k := k) (n := N1) (s := S1) (S := New w (put4 wr (w.heap.size + 1) (.int .i64 k) (sv S1) (.int .i64 N1) (.slice Av i cv))) hOp hk1 hN1 hS1 HLF.out.symm (fun b h1 h2 => ⟨by omega, h2⟩)
          rw [← HEQ.out]
          refine ⟨⟨_, _, ?_, hrv⟩, put4_below HBF.out _ (by omega) _ _ _ _⟩
          show Ending.returned (.agg #[.int .i64 k, sv S1, .int .i64 N1, (.slice Av i cv)]) = _
          congr 2
          first | rfl | (simp only [Rep.l, HLF.out]; rfl)
end Go.Proofs.Ytjefpnhffdeekaa
