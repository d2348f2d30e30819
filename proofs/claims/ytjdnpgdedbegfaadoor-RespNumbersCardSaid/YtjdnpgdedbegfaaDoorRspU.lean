/- The walk of Flat at arrays, maps, sets. -/
import Derived.Test.YtjdnpgdedbegfaaDoorRspT
import Derived.Test.YtjdnpgdedbegfaaDoorStep
namespace Go.Proofs.YtjdnpgdedbegfaaDoor
open Go.RowKit Go.Shelf
set_option linter.unusedVariables false

theorem okM_parts {d : Nat} {k n : Int} {s : List UInt8} {l : List Rep} (h : okM d (.mk k s n l)) : s.length ≤ 20 ∧ l.length ≤ 4 ∧ ∀ r ∈ l, ∃ e, d = e + 1 ∧ okM e r := by
  cases d with
  | zero => obtain ⟨h1, h2, h3, rfl⟩ := h; exact ⟨h3, by simp, by simp⟩
  | succ d => exact ⟨h.2.2.1, h.2.2.2.1, fun r hr => ⟨d, rfl, h.2.2.2.2 r hr⟩⟩

theorem Blk.x4 {w : World} {g : Nat} {t : TypeId} {a b c d : Value} (h : Blk w g t #[a, b, c, d]) : w.cell? ⟨g, 0, none⟩ = some a ∧ w.cell? ⟨g, 1, none⟩ = some b ∧ w.cell? ⟨g, 2, none⟩ = some c ∧ w.cell? ⟨g, 3, none⟩ = some d := ⟨h.cell 0, h.cell 1, h.cell 2, h.cell 3⟩

set_option maxRecDepth 100000 in
set_option maxHeartbeats 8000000 in
theorem flat_parts7 (s : List UInt8) (n : Int) (l : List Rep) (ih : ∀ r ∈ l, FlatAt r) : FlatAt (.mk 7 s n l) := by
  intro d w cs hok hr hmy
  obtain ⟨i0, hi, hz0, hz1, hz2⟩ := info_parts repinfo
  obtain ⟨hs20, hl4, hsub⟩ := okM_parts hok
  obtain ⟨A, c, xs, rfl, hk1, hn1, hs1, hlc1, hcm1, hd1, hl1⟩ := hr.fields
  simp only [Rep.k, Rep.s, Rep.n, Rep.l] at *
  have HF := Lib.hid (show Rep.flat (.mk 7 s n l) = .mk 7 [] 0 (Rep.flats l) by rw [flat_mk]; simp)
  obtain ⟨N, hN⟩ : ∃ N, l.length = N := ⟨_, rfl⟩
  have HN := Lib.hid hN
  rw [hN] at hlc1 hl4 hd1
  have HD := Lib.hid hd1
  have HL := Lib.hid hl1
  have hc1 : c ≤ 9223372036854775807 := by unfold maxLen at hcm1; omega
  have HB := Lib.hid (show Below w.heap.size w (((w.alloc (.cells #[.int .i64 7, sv s, .int .i64 n, .slice A N c] 27)).alloc (.cells #[.int .i64 0, .string ⟨#[]⟩, .int .i64 0, .slice none 0 0] 27)).alloc (.cells #[.int .i64 7, .string ⟨#[]⟩, .int .i64 0, .slice none 0 0] 27)) from (((Below.refl _ _).alloc (Nat.le_refl _) _).alloc (by simp) _).alloc (by simp; omega) _)
  have HB2 := Lib.hid (show Blk (((w.alloc (.cells #[.int .i64 7, sv s, .int .i64 n, .slice A N c] 27)).alloc (.cells #[.int .i64 0, .string ⟨#[]⟩, .int .i64 0, .slice none 0 0] 27)).alloc (.cells #[.int .i64 7, .string ⟨#[]⟩, .int .i64 0, .slice none 0 0] 27)) (w.heap.size + 1) 27 #[.int .i64 0, .string ⟨#[]⟩, .int .i64 0, .slice none 0 0] by
    have := (Blk.new (w.alloc (.cells #[.int .i64 7, sv s, .int .i64 n, .slice A N c] 27)) 27 #[.int .i64 0, .string ⟨#[]⟩, .int .i64 0, .slice none 0 0]).alloc (.cells #[.int .i64 7, .string ⟨#[]⟩, .int .i64 0, .slice none 0 0] 27)
    simpa using this)
  have HB3 := Lib.hid (show Blk (((w.alloc (.cells #[.int .i64 7, sv s, .int .i64 n, .slice A N c] 27)).alloc (.cells #[.int .i64 0, .string ⟨#[]⟩, .int .i64 0, .slice none 0 0] 27)).alloc (.cells #[.int .i64 7, .string ⟨#[]⟩, .int .i64 0, .slice none 0 0] 27)) (w.heap.size + 2) 27 #[.int .i64 7, sv [], .int .i64 0, .slice none 0 0] by
    have h0 := Blk.new ((w.alloc (.cells #[.int .i64 7, sv s, .int .i64 n, .slice A N c] 27)).alloc (.cells #[.int .i64 0, .string ⟨#[]⟩, .int .i64 0, .slice none 0 0] 27)) 27 #[.int .i64 7, .string ⟨#[]⟩, .int .i64 0, .slice none 0 0]
    rwa [World.alloc_size, World.alloc_size] at h0)
  rw [hN] at hr ⊢
  clear hok hd1 hl1 hN hr
  go_enter Tryd.func16, Tryd.ntmps16
  go_wp2_with fail
  go_loopw [39] (fun x wr => ∃ i v, i ≤ N ∧ x = .int .i64 (i : Nat) ∧ Blk wr (w.heap.size + 1) 27 #[.int .i64 0, .string ⟨#[]⟩, .int .i64 0, .slice none 0 0] ∧ Blk wr (w.heap.size + 2) 27 #[.int .i64 7, sv [], .int .i64 0, v] ∧ OR wr (w.heap.size + 3) v ((Rep.flats l).take i) ∧ Below w.heap.size w wr ∧ w.heap.size + 3 ≤ wr.heap.size) (fun x _ => N - (intOf x).toNat)
  case atStart => exact ⟨0, _, Nat.zero_le _, rfl, HB2.out, HB3.out, by rw [List.take_zero]; exact OR.nil _ _, HB.out, by simp⟩
  case round =>
    obtain ⟨i, v, him, rfl, hB2, hB3, hO, hbel, hsz⟩ := hrel
    rcases Nat.lt_or_ge i N with hlt | hge
    · obtain ⟨a1, r1, E1, f1, rfl, hSa1, hr1, hv1, p0, p1, p2, p3⟩ := (HD.out.keep (fun p hp => hbel.cell hp)).at_ (HL.out.keep (fun p hp => hbel.cell hp)) HN.out hlt
      have hlt' : (i : Int) < (N : Int) := by omega
      obtain ⟨e, rfl, hoe⟩ := hsub r1 (List.mem_of_getElem? hr1)
      have HT := Lib.hid (flats_take_succ l i hr1)
      have HTl := Lib.hid (show ((Rep.flats l).take i).length = i by rw [List.length_take, flats_len, HN.out]; omega)
      obtain ⟨acc, hacc⟩ : ∃ acc, (Rep.flats l).take i = acc := ⟨_, rfl⟩
      rw [hacc] at hO HT HTl
      obtain ⟨xs1, hown, hrl⟩ := hO
      rw [HTl.out] at hown
      obtain ⟨Av, cv, rfl⟩ := hown.sliceForm
      have HC := Lib.hid (ih r1 (List.mem_of_getElem? hr1) e (wr.alloc (.cells #[.int .i64 r1.k, sv r1.s, .int .i64 r1.n, .slice E1 r1.l.length f1] 27)).drew [.int .i64 r1.k, sv r1.s, .int .i64 r1.n, .slice E1 r1.l.length f1] hoe
        (RV.drew_ (w := wr.alloc (.cells #[.int .i64 r1.k, sv r1.s, .int .i64 r1.n, .slice E1 r1.l.length f1] 27)) (RV.mono (fun b hb => by have := hbel.size; show b < (wr.alloc _).heap.size; rw [World.alloc_size]; omega) (hv1.keep (fun p hp => World.cell?_alloc_lt wr _ p (Nat.lt_of_lt_of_le hp hbel.size))))) ((hmy.below_ hbel).alloc _))
      have HR1 := Lib.hid hr1
      have hb1 := (Below.refl wr.heap.size wr).alloc (Nat.le_refl _) (.cells #[.int .i64 r1.k, sv r1.s, .int .i64 r1.n, .slice E1 r1.l.length f1] 27)
      have c3 := (hB3.alloc (.cells #[.int .i64 r1.k, sv r1.s, .int .i64 r1.n, .slice E1 r1.l.length f1] 27)).cell 3
      clear hacc hv1 hr1
      have hB5 := Blk.new wr 27 #[.int .i64 r1.k, sv r1.s, .int .i64 r1.n, .slice E1 r1.l.length f1]
      have HB1 := Lib.hid hb1
      have hgo : ∀ kk, (Value.slice Av i cv).ownBlock = some kk → w.heap.size + 3 ≤ kk := fun kk hkk => (hown.lt kk hkk).1
      go_wp2_with fail
      have hs0 := hB5.x4
      go_region_law (first
          | (refine step_call (by rfl) 16 #[.tmp 45] _ (by rfl) _ HC.out (by simp [Act.eval]) enter_flat ?_; rintro e w1 ⟨⟨E2, f2, rfl, hv⟩, hb2⟩; refine ⟨_, rfl, ?_⟩; have hbx : Below wr.heap.size wr w1 := (HB1.out.drew.trans (hb2.mono (by show _ ≤ (wr.alloc _).heap.size; simp))); have hB3' := hB3.below hbx hB3.lt; have hB5' := Blk.below (w := (wr.alloc (.cells #[.int .i64 r1.k, sv r1.s, .int .i64 r1.n, .slice E1 r1.l.length f1] 27)).drew) hB5 hb2 hB5.lt; have hs1 := hB5'.x4; have hs2 := (hB5'.alloc (.cells #[.int .i64 r1.flat.k, sv r1.flat.s, .int .i64 r1.flat.n, .slice E2 r1.flat.l.length f2] 27)).x4; have hown1 := hown.below_ hbx; have c3' := (hB3'.alloc (.cells #[.int .i64 r1.flat.k, sv r1.flat.s, .int .i64 r1.flat.n, .slice E2 r1.flat.l.length f2] 27)).cell 3; have c3'' := hB3'.cell 3; have hsz1 : w.heap.size + 3 ≤ w1.heap.size := Nat.le_trans hsz hbx.size; have hlit : Own (w1.alloc (.cells #[.int .i64 r1.flat.k, sv r1.flat.s, .int .i64 r1.flat.n, .slice E2 r1.flat.l.length f2] 27)) (w.heap.size + 3) 27 4 (.slice (some ⟨w1.heap.size, 0, none⟩) 1 1) 1 [.int .i64 r1.flat.k, sv r1.flat.s, .int .i64 r1.flat.n, .slice E2 r1.flat.l.length f2] := Own.lit (base := w.heap.size + 3) (e := 27) (size := 4) w1 #[.int .i64 r1.flat.k, sv r1.flat.s, .int .i64 r1.flat.n, .slice E2 r1.flat.l.length f2] 1 hsz1 (by decide) rfl; have HB12 := Lib.hid (hB3'.alloc (.cells #[.int .i64 r1.flat.k, sv r1.flat.s, .int .i64 r1.flat.n, .slice E2 r1.flat.l.length f2] 27)); have HB52 := Lib.hid (hB5'.alloc (.cells #[.int .i64 r1.flat.k, sv r1.flat.s, .int .i64 r1.flat.n, .slice E2 r1.flat.l.length f2] 27)); have hone : ∀ v ∈ ([.int .i64 r1.flat.k, sv r1.flat.s, .int .i64 r1.flat.n, .slice E2 r1.flat.l.length f2] : List Value), v.oneCell' = true := (by intro v hv; simp at hv; rcases hv with rfl | rfl | rfl | rfl <;> rfl))
          | (refine (step_append_Own _ (by rfl) (.tmp 44) (.tmp 47) _ _ (by rfl) (w.heap.size + 3) 27 i0 _ 4 56 Tryd.underlying25 hi hz0 hz1 hz2 rfl (.slice Av i cv) i xs1 (by rfl) (hown1.alloc _) _ 1 [.int .i64 r1.flat.k, sv r1.flat.s, .int .i64 r1.flat.n, .slice E2 r1.flat.l.length f2] (by rfl) (Src.own hlit Tryd.underlying25 hone (by decide)) (by unfold maxLen; omega) (by omega) (by simp; omega) ?_); intro v4 w4 hO4 hg4 hat; obtain ⟨A4, c4, rfl⟩ := hO4.sliceForm; have hB13 := HB12.out.grown hg4 (fun e => by have := hgo _ e.symm; omega); have hB53 := HB52.out.grown hg4 (fun e => by have := (hown.lt _ e.symm).2; omega); have hs3 := hB53.x4; have hs4 := (hB53.far (p := ⟨w.heap.size + 2, 3, none⟩) (by simp; omega) (.slice A4 (i + 1) c4)).x4; have j3 := hB13.cell 3; have z3 := hB13.frozen 3))
      all_goals
        have hrl4 := RLs.push hsz hown hrl hbx (RV.mono (fun b hb => ⟨Nat.le_trans HB1.out.size hb.1, hb.2⟩) hv) ((Below.refl w1.heap.size w1).alloc (Nat.le_refl _) (.cells #[.int .i64 r1.flat.k, sv r1.flat.s, .int .i64 r1.flat.n, .slice E2 r1.flat.l.length f2] 27)) hg4 (by simpa using hat)
        have hO5 : OR (w4.setCell ⟨w.heap.size + 2, 3, none⟩ (.slice A4 (i + 1) c4)) (w.heap.size + 3) (.slice A4 (i + 1) c4) ((Rep.flats l).take (i + 1)) := by
          have h4 : OR w4 (w.heap.size + 3) (.slice A4 (i + 1) c4) ((Rep.flats l).take (i + 1)) :=
            ⟨xs1 ++ [.int .i64 r1.flat.k, sv r1.flat.s, .int .i64 r1.flat.n, .slice E2 r1.flat.l.length f2], by rw [HT.out, List.length_append, HTl.out]; exact hO4, by rw [HT.out]; exact hrl4⟩
          exact h4.far (by omega) 3 _
        have hB25 : Blk (w4.setCell ⟨w.heap.size + 2, 3, none⟩ (.slice A4 (i + 1) c4)) (w.heap.size + 1) 27 #[.int .i64 0, .string ⟨#[]⟩, .int .i64 0, .slice none 0 0] := (((hB2.below hbx hB2.lt).alloc _).grown hg4 (fun e => by have := hgo _ e.symm; omega)).far (by simp) _
        have hB35 : Blk (w4.setCell ⟨w.heap.size + 2, 3, none⟩ (.slice A4 (i + 1) c4)) (w.heap.size + 2) 27 #[.int .i64 7, sv [], .int .i64 0, .slice A4 (i + 1) c4] := hB13.set_ 3 _
        have hbf : Below w.heap.size w (w4.setCell ⟨w.heap.size + 2, 3, none⟩ (.slice A4 (i + 1) c4)) :=
          below_set (((hbel.trans (hbx.mono hbel.size)).alloc (Nat.le_trans hbel.size hbx.size) _).grown hg4 (by have := hbel.size; have := hbx.size; simp; omega) (fun k hk => by have := hgo k hk; omega)) (by omega) 3 _
        have hszf : w.heap.size + 3 ≤ (w4.setCell ⟨w.heap.size + 2, 3, none⟩ (.slice A4 (i + 1) c4)).heap.size := by
          rw [World.setCell_size]; have := hg4.size; simp at this; omega
        have HH := Lib.hid (And.intro hB25 (And.intro hB35 (And.intro hO5 (And.intro hbf hszf))))
        clear hB25 hB35 hO5 hbf hszf hrl4
        go_wp2_with fail
        go_roundw
        case rel =>
          first
            | exact ⟨i + 1, _, by omega, by go_num, HH.out.1, HH.out.2.1, HH.out.2.2.1, HH.out.2.2.2.1, HH.out.2.2.2.2⟩
            | ((repeat apply Exists.intro); exact ⟨⟨i + 1, _, by omega, by go_num, HH.out.1, HH.out.2.1, HH.out.2.2.1, HH.out.2.2.2.1, HH.out.2.2.2.2⟩, rfl⟩)
        case measure => simp [intOf]; omega
    · have hiN : i = N := by omega
      subst hiN
      have hfull : (Rep.flats l).take i = Rep.flats l := List.take_of_length_le (by rw [flats_len, HN.out]; exact Nat.le_refl _)
      rw [hfull] at hO
      have hlen : (Rep.flats l).length = i := by rw [flats_len, HN.out]
      have HLen := Lib.hid hlen
      clear hfull hlen
      obtain ⟨Av, cv, rfl⟩ := hO.form
      rw [HLen.out] at hB3 hO
      have k0 := hB2.cell 0
      have k1 := hB2.cell 1
      have k2 := hB2.cell 2
      have k3 := hB2.cell 3
      have z0 := hB2.frozen 0
      have z1 := hB2.frozen 1
      have z2 := hB2.frozen 2
      have z3 := hB2.frozen 3
      have j0 := hB3.cell 0
      have j1 := hB3.cell 1
      have j2 := hB3.cell 2
      have j3 := hB3.cell 3
      go_wp2_with fail
      refine bodyPost_ret (ret_cell1 rfl _ _ (w.heap.size + 1) _ _ _ _ _ rfl (hB2.put4 _ _ _ _)) rfl ?_
      rw [HF.out]
      have hOp := hO.put4 (g := w.heap.size + 1) (by omega) (.int .i64 7) (sv []) (.int .i64 0) (.slice Av i cv)
      have hrv := OR.rv (k := 7) (n := 0) (s := []) (S := New w (put4 wr (w.heap.size + 1) (.int .i64 7) (sv []) (.int .i64 0) (.slice Av i cv))) hOp (by unfold fits; omega) (by unfold fits; omega) (Nat.zero_le _) HLen.out.symm (fun b h1 h2 => ⟨by omega, h2⟩)
      refine ⟨⟨Av, cv, ?_, hrv⟩, put4_below hbel _ (by omega) _ _ _ _⟩
      show Ending.returned (.agg #[.int .i64 7, sv [], .int .i64 0, .slice Av i cv]) = Ending.returned (.agg #[.int .i64 7, sv [], .int .i64 0, .slice Av (Rep.flats l).length cv])
      rw [HLen.out]
end Go.Proofs.YtjdnpgdedbegfaaDoor
