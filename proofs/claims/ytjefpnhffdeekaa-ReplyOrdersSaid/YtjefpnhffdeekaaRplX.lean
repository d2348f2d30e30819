/- The walk of turned (tallboylaw17). -/
import Derived.Test.YtjefpnhffdeekaaRplXa
namespace Go.Proofs.Ytjefpnhffdeekaa
open Go.RowKit
set_option linter.unusedVariables false

theorem enter_turned : ∀ args w, (callFunc 5 args).run Try.prog w = .ok (.enter 5 args) w :=
  enter_of Try.func5 (by kernel_rfl) (by kernel_rfl)
theorem Blk.putAt_ {w : World} {g' : Nat} {t : TypeId} {cs : Array Value} (h : Blk w g' t cs) {g : Nat} (hg : g' < g) (o : Nat) (a b c d : Value) : Blk (putAt w g o a b c d) g' t cs := by
  unfold putAt
  exact (((h.far (p := ⟨g, o, none⟩) (by simp; omega) a).far (p := ⟨g, o + 1, none⟩) (by simp; omega) b).far (p := ⟨g, o + 2, none⟩) (by simp; omega) c).far (p := ⟨g, o + 3, none⟩) (by simp; omega) d
theorem below_putAt {w0 w : World} {B : Nat} (h : Below B w0 w) {g : Nat} (hg : B ≤ g) (o : Nat) (a b c d : Value) : Below B w0 (putAt w g o a b c d) := by
  unfold putAt
  exact below_set (below_set (below_set (below_set h hg _ _) hg _ _) hg _ _) hg _ _
/-- What turned asks and gives. -/
def TrnAt (r : Rep) : Prop := ∀ (w : World) (cs : List Value), okS r → Liv w r cs →
  Calls Try.prog 5 #[.agg cs.toArray] w fun e w' => FRet w w' e (tn r) ∧ Below w.heap.size w w'

set_option maxRecDepth 100000 in
set_option maxHeartbeats 16000000 in
theorem turned_step (k : Int) (s : List UInt8) (n : Int) (l : List Rep) (ih : ∀ r ∈ l, TrnAt r) : TrnAt (.mk k s n l) := by
  intro w cs hok hr
  obtain ⟨i0, hi, hz0, hz1, hz2⟩ := info_parts repinfo
  obtain ⟨hl19, hoks⟩ := okS_iff.1 hok
  obtain ⟨L, rfl, hL, hk1, hn1, hs1⟩ := hr.parts
  obtain ⟨A, c, xs, rfl, hlc1, hcm1, hd1, hl1⟩ := hL
  have HF := Lib.hid (tn_mk k s n l)
  obtain ⟨N, hN⟩ : ∃ N, l.length = N := ⟨_, rfl⟩
  have HN := Lib.hid hN
  rw [hN] at hlc1 hl19 hd1 ⊢
  have HD := Lib.hid hd1
  have HL := Lib.hid hl1
  have HIH := Lib.hid ih
  have HOKS := Lib.hid hoks
  have hc1 : c ≤ 9223372036854775807 := by unfold maxLen at hcm1; omega
  obtain ⟨W, hW⟩ : ∃ W, (((w.alloc (.cells #[.int .i64 k, sv s, .int .i64 n, .slice A N c] 25)).alloc (.cells #[.int .i64 0, .string ⟨#[]⟩, .int .i64 0, .slice none 0 0] 25)).alloc (.cells #[.int .i64 k, .string (bs s), .int .i64 n, .slice none 0 0] 25)) = W := ⟨_, rfl⟩
  have h0 := (Below.refl w.heap.size w).alloc (Nat.le_refl _) (.cells #[.int .i64 k, sv s, .int .i64 n, .slice A N c] 25)
  have h1 := h0.alloc (by simp) (.cells #[.int .i64 0, .string ⟨#[]⟩, .int .i64 0, .slice none 0 0] 25)
  have h2 := h1.alloc (by simp; omega) (.cells #[.int .i64 k, .string (bs s), .int .i64 n, .slice none 0 0] 25)
  have HX0 := Lib.hid (show Below w.heap.size w W by rw [← hW]; exact h2)
  have b1 : Blk W w.heap.size 25 #[.int .i64 k, sv s, .int .i64 n, .slice A N c] := by
    rw [← hW]; exact ((Blk.new w 25 #[.int .i64 k, sv s, .int .i64 n, .slice A N c]).alloc _).alloc _
  have b2 : Blk W (w.heap.size + 1) 25 #[.int .i64 0, .string ⟨#[]⟩, .int .i64 0, .slice none 0 0] := by
    have := Blk.new (w.alloc (.cells #[.int .i64 k, sv s, .int .i64 n, .slice A N c] 25)) 25 #[.int .i64 0, .string ⟨#[]⟩, .int .i64 0, .slice none 0 0]
    rw [← hW]
    exact Blk.alloc (by simpa using this) _
  have b3 : Blk W (w.heap.size + 2) 25 #[.int .i64 k, sv s, .int .i64 n, .slice none 0 0] := by
    have := Blk.new ((w.alloc (.cells #[.int .i64 k, sv s, .int .i64 n, .slice A N c] 25)).alloc (.cells #[.int .i64 0, .string ⟨#[]⟩, .int .i64 0, .slice none 0 0] 25)) 25 #[.int .i64 k, .string (bs s), .int .i64 n, .slice none 0 0]
    rw [show ((w.alloc (.cells #[.int .i64 k, sv s, .int .i64 n, .slice A N c] 25)).alloc (.cells #[.int .i64 0, .string ⟨#[]⟩, .int .i64 0, .slice none 0 0] 25)).heap.size = w.heap.size + 2 by simp] at this
    rw [← hW]
    exact this
  have HW1 := Lib.hid (show w.heap.size + 3 ≤ W.heap.size by rw [← hW]; simp)
  have HX1 := Lib.hid b1
  have HX2 := Lib.hid b2
  have HX3 := Lib.hid b3
  have HW := Lib.hid hW
  have HN1 := Lib.hid hn1
  have HS1 := Lib.hid hs1
  clear hok hd1 hl1 hN hr hs1 hn1 h0 h1 h2 b1 b2 b3 hW hoks ih
  go_enter Try.func5, Try.ntmps5
  go_wp2_with fail
  rw [HW.out]
  obtain ⟨G, hGe⟩ : ∃ G, w.heap.size + 2 = G := ⟨_, rfl⟩
  have HGE := Lib.hid hGe
  have hG : w.heap.size + 2 ≤ G := by omega
  have hG2 : G + 1 ≤ W.heap.size := by have := HW1.out; omega
  rw [hGe] at HX3
  try rw [hGe]
  clear hGe HW HW1
  go_loopw [4] (fun x wr => ∃ i v, i ≤ N ∧ x = .int .i64 (i : Nat) ∧ Blk wr w.heap.size 25 #[.int .i64 k, sv s, .int .i64 n, .slice A N c] ∧ Blk wr (w.heap.size + 1) 25 #[.int .i64 0, .string ⟨#[]⟩, .int .i64 0, .slice none 0 0] ∧ Blk wr G 25 #[.int .i64 k, sv s, .int .i64 n, v] ∧ OR wr (G + 1) v ((l.map tn).take i) ∧ Below w.heap.size w wr ∧ G + 1 ≤ wr.heap.size) (fun x _ => N - (nOf x).toNat)
  case atStart => exact ⟨0, _, Nat.zero_le _, rfl, HX1.out, HX2.out, HX3.out, by rw [List.take_zero]; exact OR.nil _ _, HX0.out, hG2⟩
  case round =>
    obtain ⟨i, v, him, rfl, hB1, hB2, hB3, hO, hbel, hsz⟩ := hrel
    rcases Nat.lt_or_ge i N with hlt | hge
    · obtain ⟨a1, r1, E1, f1, rfl, hSa1, hr1, hv1, p0, p1, p2, p3⟩ := (HD.out.keep (fun p hp => hbel.cell hp)).at_ (HL.out.keep (fun p hp => hbel.cell hp)) HN.out hlt
      have hlt' : (i : Int) < (N : Int) := by omega
      have hmem1 := List.mem_of_getElem? hr1
      have HT := Lib.hid (map_take_succ tn l i hr1)
      have HTl := Lib.hid (show ((l.map tn).take i).length = i by rw [List.length_take, List.length_map, HN.out]; omega)
      obtain ⟨acc, hacc⟩ : ∃ acc, (l.map tn).take i = acc := ⟨_, rfl⟩
      rw [hacc] at hO HT HTl
      obtain ⟨xs1, hown, hrl⟩ := hO
      rw [HTl.out] at hown
      obtain ⟨Av, cv, rfl⟩ := hown.sliceForm
      have HC := Lib.hid (HIH.out r1 hmem1 wr.drew [.int .i64 r1.k, sv r1.s, .int .i64 r1.n, .slice E1 r1.l.length f1] (HOKS.out r1 hmem1)
        (RV.drew_ (w := wr) (RV.mono (fun b hb => Nat.lt_of_lt_of_le hb hbel.size) hv1)))
      have c3 := hB3.cell 3
      have m3 := hB1.cell 3
      have HM1 := Lib.hid hB1
      have HB2o := Lib.hid hB2
      clear hacc hv1 hr1 hmem1 hB1 hB2
      have hgo : ∀ kk, (Value.slice Av i cv).ownBlock = some kk → G + 1 ≤ kk := fun kk hkk => (hown.lt kk hkk).1
      go_wp2_with fail
      go_region_law (first
          | (refine step_call (by rfl) 5 #[.tmp 25] _ (by rfl) _ HC.out (by simp [Act.eval]) enter_turned ?_; rintro e w1 ⟨⟨E2, f2, rfl, hv⟩, hb2⟩; refine ⟨_, rfl, ?_⟩; have hbx : Below wr.heap.size wr w1 := ((Below.refl wr.heap.size wr).drew.trans hb2); have hB3' := hB3.below hbx hB3.lt; have hown1 := hown.below_ hbx; have c3' := (hB3'.alloc (.cells #[.int .i64 (tn r1).k, sv (tn r1).s, .int .i64 (tn r1).n, .slice E2 (tn r1).l.length f2] 25)).cell 3; have c3'' := hB3'.cell 3; have hsz1 : G + 1 ≤ w1.heap.size := Nat.le_trans hsz hbx.size; have hlit : Own (w1.alloc (.cells #[.int .i64 (tn r1).k, sv (tn r1).s, .int .i64 (tn r1).n, .slice E2 (tn r1).l.length f2] 25)) (G + 1) 25 4 (.slice (some ⟨w1.heap.size, 0, none⟩) 1 1) 1 [.int .i64 (tn r1).k, sv (tn r1).s, .int .i64 (tn r1).n, .slice E2 (tn r1).l.length f2] := Own.lit (base := G + 1) (e := 25) (size := 4) w1 #[.int .i64 (tn r1).k, sv (tn r1).s, .int .i64 (tn r1).n, .slice E2 (tn r1).l.length f2] 1 hsz1 (by decide) rfl; have HB12 := Lib.hid (hB3'.alloc (.cells #[.int .i64 (tn r1).k, sv (tn r1).s, .int .i64 (tn r1).n, .slice E2 (tn r1).l.length f2] 25)); have hone : ∀ v ∈ ([.int .i64 (tn r1).k, sv (tn r1).s, .int .i64 (tn r1).n, .slice E2 (tn r1).l.length f2] : List Value), v.oneCell' = true := (by intro v hv; simp at hv; rcases hv with rfl | rfl | rfl | rfl <;> rfl))
          | (refine (step_append_Own _ (by rfl) (.tmp 20) (.tmp 27) _ _ (by rfl) (G + 1) 25 i0 _ 4 56 Try.underlying23 hi hz0 hz1 hz2 rfl (.slice Av i cv) i xs1 (by rfl) (hown1.alloc _) _ 1 [.int .i64 (tn r1).k, sv (tn r1).s, .int .i64 (tn r1).n, .slice E2 (tn r1).l.length f2] (by rfl) (Src.own hlit Try.underlying23 hone (by decide)) (by unfold maxLen; omega) (by omega) (by simp; omega) ?_); intro v4 w4 hO4 hg4 hat; obtain ⟨A4, c4, rfl⟩ := hO4.sliceForm; have hB13 := HB12.out.grown hg4 (fun e => by have := hgo _ e.symm; omega); have j3 := hB13.cell 3; have z3 := hB13.frozen 3))
      all_goals
        have hrl4 := RLs.push hsz hown hrl hbx (RV.mono (fun b hb => ⟨hb.1, hb.2⟩) hv) ((Below.refl w1.heap.size w1).alloc (Nat.le_refl _) (.cells #[.int .i64 (tn r1).k, sv (tn r1).s, .int .i64 (tn r1).n, .slice E2 (tn r1).l.length f2] 25)) hg4 (by simpa using hat)
        have hO5 : OR (w4.setCell ⟨G, 3, none⟩ (.slice A4 (i + 1) c4)) (G + 1) (.slice A4 (i + 1) c4) ((l.map tn).take (i + 1)) := by
          have h4 : OR w4 (G + 1) (.slice A4 (i + 1) c4) ((l.map tn).take (i + 1)) :=
            ⟨xs1 ++ [.int .i64 (tn r1).k, sv (tn r1).s, .int .i64 (tn r1).n, .slice E2 (tn r1).l.length f2], by rw [HT.out, List.length_append, HTl.out]; exact hO4, by rw [HT.out]; exact hrl4⟩
          exact h4.far (by omega) 3 _
        have hB15 : Blk (w4.setCell ⟨G, 3, none⟩ (.slice A4 (i + 1) c4)) w.heap.size 25 #[.int .i64 k, sv s, .int .i64 n, .slice (some a1) N c] := (((HM1.out.below hbx HM1.out.lt).alloc _).grown hg4 (fun e => by have := hgo _ e.symm; omega)).far (by simp; omega) _
        have hB25 : Blk (w4.setCell ⟨G, 3, none⟩ (.slice A4 (i + 1) c4)) (w.heap.size + 1) 25 #[.int .i64 0, .string ⟨#[]⟩, .int .i64 0, .slice none 0 0] := (((HB2o.out.below hbx HB2o.out.lt).alloc _).grown hg4 (fun e => by have := hgo _ e.symm; omega)).far (by simp; omega) _
        have hB35 : Blk (w4.setCell ⟨G, 3, none⟩ (.slice A4 (i + 1) c4)) G 25 #[.int .i64 k, sv s, .int .i64 n, .slice A4 (i + 1) c4] := hB13.set_ 3 _
        have hbf : Below w.heap.size w (w4.setCell ⟨G, 3, none⟩ (.slice A4 (i + 1) c4)) :=
          below_set (((hbel.trans (hbx.mono hbel.size)).alloc (Nat.le_trans hbel.size hbx.size) _).grown hg4 (by have := hbel.size; have := hbx.size; simp; omega) (fun k hk => by have := hgo k hk; omega)) (by omega) 3 _
        have hszf : G + 1 ≤ (w4.setCell ⟨G, 3, none⟩ (.slice A4 (i + 1) c4)).heap.size := by
          rw [World.size_setCell]; have := hg4.size; simp at this; omega
        have HH := Lib.hid (And.intro hB15 (And.intro hB25 (And.intro hB35 (And.intro hO5 (And.intro hbf hszf)))))
        clear hB15 hB25 hB35 hO5 hbf hszf hrl4
        go_wp2_with fail
        go_roundw
        case rel =>
          first
            | exact ⟨i + 1, _, by omega, by go_num, HH.out.1, HH.out.2.1, HH.out.2.2.1, HH.out.2.2.2.1, HH.out.2.2.2.2.1, HH.out.2.2.2.2.2⟩
            | ((repeat apply Exists.intro); exact ⟨⟨i + 1, _, by omega, by go_num, HH.out.1, HH.out.2.1, HH.out.2.2.1, HH.out.2.2.2.1, HH.out.2.2.2.2.1, HH.out.2.2.2.2.2⟩, rfl⟩)
        case measure => simp [nOf]; omega
    · have hiN : i = N := by omega
      subst hiN
      have hfull : (l.map tn).take i = l.map tn := List.take_of_length_le (by rw [List.length_map, HN.out]; exact Nat.le_refl _)
      rw [hfull] at hO
      have HLen := Lib.hid (show (l.map tn).length = i by rw [List.length_map, HN.out])
      obtain ⟨Lp, hLp⟩ : ∃ L, l.map tn = L := ⟨_, rfl⟩
      rw [hLp] at hO HLen HF
      clear hfull hLp HIH
      obtain ⟨Av, cv, rfl⟩ := hO.form
      rw [HLen.out] at hB3 hO
      have hi1 : ¬ (i : Int) < (i : Int) := by omega
      have m0 := hB1.cell 0
      have m3 := hB1.cell 3
      have c3 := hB3.cell 3
      have HB1 := Lib.hid hB1
      have HB2 := Lib.hid hB2
      have HB3 := Lib.hid hB3
      have HO := Lib.hid hO
      have HBL := Lib.hid hbel
      clear hB1 hB2 hB3 hO hbel
      by_cases hk9 : k = 9
      · subst hk9
        go_wp2_with fail
        go_loopw [6] (fun x wq => ∃ (j : Nat) (X : List Rep), x = .int .i64 (j : Nat) ∧ Hid (Trn Lp X j) ∧ Blk wq (w.heap.size + 1) 25 #[.int .i64 0, .string ⟨#[]⟩, .int .i64 0, .slice none 0 0] ∧ Blk wq G 25 #[.int .i64 9, sv s, .int .i64 n, .slice Av i cv] ∧ OR wq (G + 1) (.slice Av i cv) X ∧ Below w.heap.size w wq ∧ G + 1 ≤ wq.heap.size ∧ j ≤ i) (fun x _ => i - (nOf x).toNat)
        case atStart => exact ⟨0, Lp, rfl, Lib.hid (Trn.start _), HB2.out, HB3.out, HO.out, HBL.out, hsz, Nat.zero_le _⟩
        case round =>
          clear m0 m3 c3 HB1 HB2 HB3 HO HBL hsz
          obtain ⟨j, X, rfl, HI, hB2, hB3, hO, hbel, hsz, hji⟩ := hrel
          have c3 := hB3.cell 3
          rcases Nat.lt_or_ge j (i / 2) with hlt | hge
          · obtain ⟨P1, y, M, x, Q, rfl, hP, hPM, hN9⟩ := HI.out.step (by rw [HLen.out]; exact hlt)
            have hXn : (P1 ++ y :: (M ++ x :: Q)).length = i := by rw [HI.out.len, HLen.out]
            rw [HLen.out] at hPM
            obtain ⟨j2, hj2⟩ : ∃ j2, i - 1 - j = j2 := ⟨_, rfl⟩
            rw [hj2] at hPM
            obtain ⟨g, rfl⟩ : ∃ g, Av = some ⟨g, 0, none⟩ := by
              obtain ⟨xs1, hown, _⟩ := id hO
              rcases hown.form with ⟨_, h0⟩ | ⟨g, cap, hv, _⟩
              · rw [hXn] at h0; omega
              · injection hv with e1 _ _; exact ⟨g, e1⟩
            obtain ⟨E1, f1, E2, f2, hjj, hj2i, hgB, hgl, ⟨c00, c01, c02, c03⟩, ⟨c10, c11, c12, c13⟩, z0, z1, hOS⟩ := OR.far2 hXn hP hPM hO
            have HN9 := Lib.hid hN9
            have HB3 := Lib.hid hB3
            have HOS := Lib.hid hOS
            have w1 : IntKind.i64.wrap ((i : Int) - 1 - (j : Int)) = (j2 : Int) := by rw [IntKind.wrap_i64]; omega
            have w2 : (i : Int) - 1 - (j : Int) = (j2 : Int) := by omega
            have w3 : (j2 : Int) < (i : Int) := by omega
            have w4 : (j : Int) < (i : Int) := by omega
            have w5 : (j : Int) < (i : Int) / 2 := by omega
            obtain ⟨a0, ha0⟩ : ∃ a : Addr, (⟨g, 0, none⟩ : Addr) = a := ⟨_, rfl⟩
            have HA4 := Lib.hid (fun k : Nat => (show a0.add k = ⟨g, k, none⟩ by rw [← ha0, spot_add rfl]; simp))
            rw [ha0] at c3
            clear ha0 hP hPM hN9 hO hOS hB3 hXn hj2
            have c4 : (((((wr.setCell (a0.add (j * 4)) (.int .i64 x.k)).setCell (⟨(a0.add (j * 4)).block, (a0.add (j * 4)).off + 1, none⟩) (.string (bs x.s))).setCell (⟨(a0.add (j * 4)).block, (a0.add (j * 4)).off + 2, none⟩) (.int .i64 x.n)).setCell (⟨(a0.add (j * 4)).block, (a0.add (j * 4)).off + 3, none⟩) (.slice E2 x.l.length f2))).cell? ⟨G, 3, none⟩ = some (.slice (some a0) i cv) := (show (puts wr [(a0.add (j * 4), .int .i64 x.k), (⟨(a0.add (j * 4)).block, (a0.add (j * 4)).off + 1, none⟩, .string (bs x.s)), (⟨(a0.add (j * 4)).block, (a0.add (j * 4)).off + 2, none⟩, .int .i64 x.n), (⟨(a0.add (j * 4)).block, (a0.add (j * 4)).off + 3, none⟩, .slice E2 x.l.length f2)]).cell? ⟨G, 3, none⟩ = some (.slice (some a0) i cv) from (puts_cell _ _ _ (by intro q hq; simp only [HA4.out, List.mem_cons, List.mem_nil_iff, or_false] at hq ⊢; rcases hq with rfl | rfl | rfl | rfl <;> simp <;> omega)).trans c3)
            obtain ⟨d0, d1, d2, d3, d4, d5, d6, d7⟩ : wr.cell? (a0.add (j * 4)) = some (.int .i64 y.k) ∧ wr.cell? (⟨(a0.add (j * 4)).block, (a0.add (j * 4)).off + 1, none⟩) = some (.string (bs y.s)) ∧ wr.cell? (⟨(a0.add (j * 4)).block, (a0.add (j * 4)).off + 2, none⟩) = some (.int .i64 y.n) ∧ wr.cell? (⟨(a0.add (j * 4)).block, (a0.add (j * 4)).off + 3, none⟩) = some (.slice E1 y.l.length f1) ∧ wr.cell? (a0.add (j2 * 4)) = some (.int .i64 x.k) ∧ wr.cell? (⟨(a0.add (j2 * 4)).block, (a0.add (j2 * 4)).off + 1, none⟩) = some (.string (bs x.s)) ∧ wr.cell? (⟨(a0.add (j2 * 4)).block, (a0.add (j2 * 4)).off + 2, none⟩) = some (.int .i64 x.n) ∧ wr.cell? (⟨(a0.add (j2 * 4)).block, (a0.add (j2 * 4)).off + 3, none⟩) = some (.slice E2 x.l.length f2) := by
              simp only [HA4.out]
              exact ⟨c00, c01, c02, c03, c10, c11, c12, c13⟩
            obtain ⟨fz0, fz1, fz2, fz3, fz4, fz5, fz6, fz7⟩ : wr.frozen? (a0.add (j * 4)) = false ∧ wr.frozen? (⟨(a0.add (j * 4)).block, (a0.add (j * 4)).off + 1, none⟩) = false ∧ wr.frozen? (⟨(a0.add (j * 4)).block, (a0.add (j * 4)).off + 2, none⟩) = false ∧ wr.frozen? (⟨(a0.add (j * 4)).block, (a0.add (j * 4)).off + 3, none⟩) = false ∧ wr.frozen? (a0.add (j2 * 4)) = false ∧ wr.frozen? (⟨(a0.add (j2 * 4)).block, (a0.add (j2 * 4)).off + 1, none⟩) = false ∧ wr.frozen? (⟨(a0.add (j2 * 4)).block, (a0.add (j2 * 4)).off + 2, none⟩) = false ∧ wr.frozen? (⟨(a0.add (j2 * 4)).block, (a0.add (j2 * 4)).off + 3, none⟩) = false := by
              simp only [HA4.out]
              exact ⟨z0 0 (by omega), z0 1 (by omega), z0 2 (by omega), z0 3 (by omega), z1 0 (by omega), z1 1 (by omega), z1 2 (by omega), z1 3 (by omega)⟩
            clear c00 c01 c02 c03 c10 c11 c12 c13 z0 z1
            have s1 : ((wr.setCell (a0.add (j * 4)) (.int .i64 x.k))).cell? (⟨(a0.add (j * 4)).block, (a0.add (j * 4)).off + 1, none⟩) = some (.string (bs y.s)) := (show (puts wr [(a0.add (j * 4), .int .i64 x.k)]).cell? (⟨(a0.add (j * 4)).block, (a0.add (j * 4)).off + 1, none⟩) = some (.string (bs y.s)) from (puts_cell _ _ _ (by intro q hq; simp only [HA4.out, List.mem_cons, List.mem_nil_iff, or_false] at hq ⊢; rcases hq with rfl <;> simp <;> omega)).trans d1)
            have s2 : (((wr.setCell (a0.add (j * 4)) (.int .i64 x.k)).setCell (⟨(a0.add (j * 4)).block, (a0.add (j * 4)).off + 1, none⟩) (.string (bs x.s)))).cell? (⟨(a0.add (j * 4)).block, (a0.add (j * 4)).off + 2, none⟩) = some (.int .i64 y.n) := (show (puts wr [(a0.add (j * 4), .int .i64 x.k), (⟨(a0.add (j * 4)).block, (a0.add (j * 4)).off + 1, none⟩, .string (bs x.s))]).cell? (⟨(a0.add (j * 4)).block, (a0.add (j * 4)).off + 2, none⟩) = some (.int .i64 y.n) from (puts_cell _ _ _ (by intro q hq; simp only [HA4.out, List.mem_cons, List.mem_nil_iff, or_false] at hq ⊢; rcases hq with rfl | rfl <;> simp <;> omega)).trans d2)
            have s3 : ((((wr.setCell (a0.add (j * 4)) (.int .i64 x.k)).setCell (⟨(a0.add (j * 4)).block, (a0.add (j * 4)).off + 1, none⟩) (.string (bs x.s))).setCell (⟨(a0.add (j * 4)).block, (a0.add (j * 4)).off + 2, none⟩) (.int .i64 x.n))).cell? (⟨(a0.add (j * 4)).block, (a0.add (j * 4)).off + 3, none⟩) = some (.slice E1 y.l.length f1) := (show (puts wr [(a0.add (j * 4), .int .i64 x.k), (⟨(a0.add (j * 4)).block, (a0.add (j * 4)).off + 1, none⟩, .string (bs x.s)), (⟨(a0.add (j * 4)).block, (a0.add (j * 4)).off + 2, none⟩, .int .i64 x.n)]).cell? (⟨(a0.add (j * 4)).block, (a0.add (j * 4)).off + 3, none⟩) = some (.slice E1 y.l.length f1) from (puts_cell _ _ _ (by intro q hq; simp only [HA4.out, List.mem_cons, List.mem_nil_iff, or_false] at hq ⊢; rcases hq with rfl | rfl | rfl <;> simp <;> omega)).trans d3)
            have s4 : (((((wr.setCell (a0.add (j * 4)) (.int .i64 x.k)).setCell (⟨(a0.add (j * 4)).block, (a0.add (j * 4)).off + 1, none⟩) (.string (bs x.s))).setCell (⟨(a0.add (j * 4)).block, (a0.add (j * 4)).off + 2, none⟩) (.int .i64 x.n)).setCell (⟨(a0.add (j * 4)).block, (a0.add (j * 4)).off + 3, none⟩) (.slice E2 x.l.length f2))).cell? (a0.add (j2 * 4)) = some (.int .i64 x.k) := (show (puts wr [(a0.add (j * 4), .int .i64 x.k), (⟨(a0.add (j * 4)).block, (a0.add (j * 4)).off + 1, none⟩, .string (bs x.s)), (⟨(a0.add (j * 4)).block, (a0.add (j * 4)).off + 2, none⟩, .int .i64 x.n), (⟨(a0.add (j * 4)).block, (a0.add (j * 4)).off + 3, none⟩, .slice E2 x.l.length f2)]).cell? (a0.add (j2 * 4)) = some (.int .i64 x.k) from (puts_cell _ _ _ (by intro q hq; simp only [HA4.out, List.mem_cons, List.mem_nil_iff, or_false] at hq ⊢; rcases hq with rfl | rfl | rfl | rfl <;> simp <;> omega)).trans d4)
            have s5 : ((((((wr.setCell (a0.add (j * 4)) (.int .i64 x.k)).setCell (⟨(a0.add (j * 4)).block, (a0.add (j * 4)).off + 1, none⟩) (.string (bs x.s))).setCell (⟨(a0.add (j * 4)).block, (a0.add (j * 4)).off + 2, none⟩) (.int .i64 x.n)).setCell (⟨(a0.add (j * 4)).block, (a0.add (j * 4)).off + 3, none⟩) (.slice E2 x.l.length f2)).setCell (a0.add (j2 * 4)) (.int .i64 y.k))).cell? (⟨(a0.add (j2 * 4)).block, (a0.add (j2 * 4)).off + 1, none⟩) = some (.string (bs x.s)) := (show (puts wr [(a0.add (j * 4), .int .i64 x.k), (⟨(a0.add (j * 4)).block, (a0.add (j * 4)).off + 1, none⟩, .string (bs x.s)), (⟨(a0.add (j * 4)).block, (a0.add (j * 4)).off + 2, none⟩, .int .i64 x.n), (⟨(a0.add (j * 4)).block, (a0.add (j * 4)).off + 3, none⟩, .slice E2 x.l.length f2), (a0.add (j2 * 4), .int .i64 y.k)]).cell? (⟨(a0.add (j2 * 4)).block, (a0.add (j2 * 4)).off + 1, none⟩) = some (.string (bs x.s)) from (puts_cell _ _ _ (by intro q hq; simp only [HA4.out, List.mem_cons, List.mem_nil_iff, or_false] at hq ⊢; rcases hq with rfl | rfl | rfl | rfl | rfl <;> simp <;> omega)).trans d5)
            have s6 : (((((((wr.setCell (a0.add (j * 4)) (.int .i64 x.k)).setCell (⟨(a0.add (j * 4)).block, (a0.add (j * 4)).off + 1, none⟩) (.string (bs x.s))).setCell (⟨(a0.add (j * 4)).block, (a0.add (j * 4)).off + 2, none⟩) (.int .i64 x.n)).setCell (⟨(a0.add (j * 4)).block, (a0.add (j * 4)).off + 3, none⟩) (.slice E2 x.l.length f2)).setCell (a0.add (j2 * 4)) (.int .i64 y.k)).setCell (⟨(a0.add (j2 * 4)).block, (a0.add (j2 * 4)).off + 1, none⟩) (.string (bs y.s)))).cell? (⟨(a0.add (j2 * 4)).block, (a0.add (j2 * 4)).off + 2, none⟩) = some (.int .i64 x.n) := (show (puts wr [(a0.add (j * 4), .int .i64 x.k), (⟨(a0.add (j * 4)).block, (a0.add (j * 4)).off + 1, none⟩, .string (bs x.s)), (⟨(a0.add (j * 4)).block, (a0.add (j * 4)).off + 2, none⟩, .int .i64 x.n), (⟨(a0.add (j * 4)).block, (a0.add (j * 4)).off + 3, none⟩, .slice E2 x.l.length f2), (a0.add (j2 * 4), .int .i64 y.k), (⟨(a0.add (j2 * 4)).block, (a0.add (j2 * 4)).off + 1, none⟩, .string (bs y.s))]).cell? (⟨(a0.add (j2 * 4)).block, (a0.add (j2 * 4)).off + 2, none⟩) = some (.int .i64 x.n) from (puts_cell _ _ _ (by intro q hq; simp only [HA4.out, List.mem_cons, List.mem_nil_iff, or_false] at hq ⊢; rcases hq with rfl | rfl | rfl | rfl | rfl | rfl <;> simp <;> omega)).trans d6)
            have s7 : ((((((((wr.setCell (a0.add (j * 4)) (.int .i64 x.k)).setCell (⟨(a0.add (j * 4)).block, (a0.add (j * 4)).off + 1, none⟩) (.string (bs x.s))).setCell (⟨(a0.add (j * 4)).block, (a0.add (j * 4)).off + 2, none⟩) (.int .i64 x.n)).setCell (⟨(a0.add (j * 4)).block, (a0.add (j * 4)).off + 3, none⟩) (.slice E2 x.l.length f2)).setCell (a0.add (j2 * 4)) (.int .i64 y.k)).setCell (⟨(a0.add (j2 * 4)).block, (a0.add (j2 * 4)).off + 1, none⟩) (.string (bs y.s))).setCell (⟨(a0.add (j2 * 4)).block, (a0.add (j2 * 4)).off + 2, none⟩) (.int .i64 y.n))).cell? (⟨(a0.add (j2 * 4)).block, (a0.add (j2 * 4)).off + 3, none⟩) = some (.slice E2 x.l.length f2) := (show (puts wr [(a0.add (j * 4), .int .i64 x.k), (⟨(a0.add (j * 4)).block, (a0.add (j * 4)).off + 1, none⟩, .string (bs x.s)), (⟨(a0.add (j * 4)).block, (a0.add (j * 4)).off + 2, none⟩, .int .i64 x.n), (⟨(a0.add (j * 4)).block, (a0.add (j * 4)).off + 3, none⟩, .slice E2 x.l.length f2), (a0.add (j2 * 4), .int .i64 y.k), (⟨(a0.add (j2 * 4)).block, (a0.add (j2 * 4)).off + 1, none⟩, .string (bs y.s)), (⟨(a0.add (j2 * 4)).block, (a0.add (j2 * 4)).off + 2, none⟩, .int .i64 y.n)]).cell? (⟨(a0.add (j2 * 4)).block, (a0.add (j2 * 4)).off + 3, none⟩) = some (.slice E2 x.l.length f2) from (puts_cell _ _ _ (by intro q hq; simp only [HA4.out, List.mem_cons, List.mem_nil_iff, or_false] at hq ⊢; rcases hq with rfl | rfl | rfl | rfl | rfl | rfl | rfl <;> simp <;> omega)).trans d7)
            go_wp2_with fail
            go_region
            have hW4 : ((((((((wr.setCell (a0.add (j * 4)) (.int .i64 x.k)).setCell (⟨(a0.add (j * 4)).block, (a0.add (j * 4)).off + 1, none⟩) (.string (bs x.s))).setCell (⟨(a0.add (j * 4)).block, (a0.add (j * 4)).off + 2, none⟩) (.int .i64 x.n)).setCell (⟨(a0.add (j * 4)).block, (a0.add (j * 4)).off + 3, none⟩) (.slice E2 x.l.length f2)).setCell (a0.add (j2 * 4)) (.int .i64 y.k)).setCell (⟨(a0.add (j2 * 4)).block, (a0.add (j2 * 4)).off + 1, none⟩) (.string (bs y.s))).setCell (⟨(a0.add (j2 * 4)).block, (a0.add (j2 * 4)).off + 2, none⟩) (.int .i64 y.n)).setCell (⟨(a0.add (j2 * 4)).block, (a0.add (j2 * 4)).off + 3, none⟩) (.slice E1 y.l.length f1)) = putAt (putAt wr g (j * 4) (.int .i64 x.k) (sv x.s) (.int .i64 x.n) (.slice E2 x.l.length f2)) g (j2 * 4) (.int .i64 y.k) (sv y.s) (.int .i64 y.n) (.slice E1 y.l.length f1) := by
              simp only [HA4.out]
              rfl
            rw [hW4]
            have hA2 := (hB2.putAt_ (g := g) (by omega) (j * 4) (.int .i64 x.k) (sv x.s) (.int .i64 x.n) (.slice E2 x.l.length f2)).putAt_ (g := g) (by omega) (j2 * 4) (.int .i64 y.k) (sv y.s) (.int .i64 y.n) (.slice E1 y.l.length f1)
            have hA3 := (HB3.out.putAt_ (g := g) (by omega) (j * 4) (.int .i64 x.k) (sv x.s) (.int .i64 x.n) (.slice E2 x.l.length f2)).putAt_ (g := g) (by omega) (j2 * 4) (.int .i64 y.k) (sv y.s) (.int .i64 y.n) (.slice E1 y.l.length f1)
            have hAb := below_putAt (below_putAt hbel (g := g) (by omega) (j * 4) (.int .i64 x.k) (sv x.s) (.int .i64 x.n) (.slice E2 x.l.length f2)) (g := g) (by omega) (j2 * 4) (.int .i64 y.k) (sv y.s) (.int .i64 y.n) (.slice E1 y.l.length f1)
            have hAs : G + 1 ≤ (putAt (putAt wr g (j * 4) (.int .i64 x.k) (sv x.s) (.int .i64 x.n) (.slice E2 x.l.length f2)) g (j2 * 4) (.int .i64 y.k) (sv y.s) (.int .i64 y.n) (.slice E1 y.l.length f1)).heap.size := by rw [putAt_size, putAt_size]; exact hsz
            have HH := Lib.hid (And.intro hA2 (And.intro hA3 (And.intro HOS.out (And.intro hAb hAs))))
            clear hA2 hA3 hAb hAs HOS hW4 c4 d0 d1 d2 d3 d4 d5 d6 d7 fz0 fz1 fz2 fz3 fz4 fz5 fz6 fz7 s1 s2 s3 s4 s5 s6 s7
            generalize putAt (putAt wr g (j * 4) (.int .i64 x.k) (sv x.s) (.int .i64 x.n) (.slice E2 x.l.length f2)) g (j2 * 4) (.int .i64 y.k) (sv y.s) (.int .i64 y.n) (.slice E1 y.l.length f1) = W4 at HH ⊢
            go_wp2_with fail
            go_roundw
            case rel =>
              first
                | exact ⟨j + 1, _, by go_num, HN9, HH.out.1, HH.out.2.1, HH.out.2.2.1, HH.out.2.2.2.1, HH.out.2.2.2.2, by omega⟩
                | exact ⟨j + 1, _, by go_num, HN9, HH.out.1.drew, HH.out.2.1.drew, HH.out.2.2.1.drew, HH.out.2.2.2.1.drew, HH.out.2.2.2.2, by omega⟩
            case measure => simp [nOf]; omega
          · have w5 : ¬ (j : Int) < (i : Int) / 2 := by omega
            have HX := Lib.hid (HI.out.end_ (by rw [HLen.out]; omega))
            have k0 := hB2.cell 0
            have k1 := hB2.cell 1
            have k2 := hB2.cell 2
            have k3 := hB2.cell 3
            have z0 := hB2.frozen 0
            have z1 := hB2.frozen 1
            have z2 := hB2.frozen 2
            have z3 := hB2.frozen 3
            have j0 := hB3.cell 0
            have j1 := hB3.cell 1
            have j2 := hB3.cell 2
            have j3 := hB3.cell 3
            have HOF := Lib.hid hO
            have HBF := Lib.hid hbel
            clear hO hbel
            go_wp2_with fail
            refine bodyPost_ret (ret_cell1 rfl _ _ (w.heap.size + 1) _ _ _ _ _ rfl (hB2.put4 _ _ _ _)) rfl ?_
            rw [HF.out]
            have hLX : X.length = i := by rw [HX.out, List.length_reverse, HLen.out]
            have hOp := HOF.out.put4 (g := w.heap.size + 1) (by omega) (.int .i64 9) (sv s) (.int .i64 n) (.slice Av i cv)
            have hrv := OR.rv (k := 9) (n := n) (s := s) (S := New w (put4 wr (w.heap.size + 1) (.int .i64 9) (sv s) (.int .i64 n) (.slice Av i cv))) hOp hk1 HN1.out HS1.out hLX.symm (fun b h1 h2 => ⟨by omega, h2⟩)
            have hXe : X = trn 9 Lp := HX.out
            rw [← hXe]
            refine ⟨⟨_, _, ?_, hrv⟩, put4_below HBF.out _ (by omega) _ _ _ _⟩
            show Ending.returned (.agg #[.int .i64 9, sv s, .int .i64 n, (.slice Av i cv)]) = _
            congr 2
            first | rfl | (simp only [Rep.l, hLX]; rfl)
      · by_cases hk8 : k = 8
        · subst hk8
          obtain ⟨h, hh⟩ : ∃ h, i / 2 = h := ⟨_, rfl⟩
          have HH2 := Lib.hid hh
          have v0 : (i : Int) / 2 = (h : Int) := by omega
          have v1 : (2 * h : Nat) ≤ i := by omega
          clear hh
          go_wp2_with fail
          go_loopw [8, 9] (fun x y wq => ∃ (j : Nat) (X : List Rep), x = .int .i64 (j : Nat) ∧ Hid (TrnP Lp X j) ∧ Blk wq (w.heap.size + 1) 25 #[.int .i64 0, .string ⟨#[]⟩, .int .i64 0, .slice none 0 0] ∧ Blk wq G 25 #[.int .i64 8, sv s, .int .i64 n, .slice Av i cv] ∧ OR wq (G + 1) (.slice Av i cv) X ∧ Below w.heap.size w wq ∧ G + 1 ≤ wq.heap.size ∧ j ≤ i) (fun x y _ => i - (nOf x).toNat)
          case atStart => exact ⟨0, Lp, rfl, Lib.hid (TrnP.start _), HB2.out, HB3.out, HO.out, HBL.out, hsz, Nat.zero_le _⟩
          case round =>
            clear m0 m3 c3 HB1 HB2 HB3 HO HBL hsz
            obtain ⟨j, X, rfl, HI, hB2, hB3, hO, hbel, hsz, hji⟩ := hrel
            have c3 := hB3.cell 3
            rcases Nat.lt_or_ge j (h / 2) with hlt | hge
            · obtain ⟨P1, y1, y2, M, x1, x2, Q, rfl, hP, hPM, hN9⟩ := HI.out.step (by rw [HLen.out, HH2.out]; exact hlt)
              have hXn : (P1 ++ y1 :: (y2 :: M ++ x1 :: (x2 :: Q))).length = i := by rw [HI.out.len, HLen.out]
              rw [HLen.out, HH2.out] at hPM
              obtain ⟨u, hu⟩ : ∃ u, 2 * j = u := ⟨_, rfl⟩
              obtain ⟨q, hq⟩ : ∃ q, h - 1 - j = q := ⟨_, rfl⟩
              obtain ⟨v, hv⟩ : ∃ v, 2 * q = v := ⟨_, rfl⟩
              obtain ⟨u1, hu1⟩ : ∃ x, u + 1 = x := ⟨_, rfl⟩
              obtain ⟨v1, hv1⟩ : ∃ x, v + 1 = x := ⟨_, rfl⟩
              rw [hq, hv] at hPM
              rw [hu] at hP
              obtain ⟨g, rfl⟩ : ∃ g, Av = some ⟨g, 0, none⟩ := by
                obtain ⟨xs1, hown, _⟩ := id hO
                rcases hown.form with ⟨_, h0⟩ | ⟨g, cap, hv, _⟩
                · rw [hXn] at h0; omega
                · injection hv with e1 _ _; exact ⟨g, e1⟩
              obtain ⟨E1, f1, E2, f2, hjj, hj2i, hgB, hgl, ⟨c00, c01, c02, c03⟩, ⟨c10, c11, c12, c13⟩, z0, z1, hOS⟩ := OR.far2 hXn hP hPM hO
              have e9 : P1 ++ x1 :: (y2 :: M ++ y1 :: (x2 :: Q)) = (P1 ++ [x1]) ++ y2 :: ((M ++ [y1]) ++ x2 :: Q) := by simp
              have hXn2 : ((P1 ++ [x1]) ++ y2 :: ((M ++ [y1]) ++ x2 :: Q)).length = i := by rw [← hXn]; simp
              have hP2 : (P1 ++ [x1]).length = u1 := by rw [← hu1]; simp [hP]
              have hPM2 : ((P1 ++ [x1]) ++ y2 :: (M ++ [y1])).length = v1 := by rw [← hv1, ← hPM]; simp; omega
              have e10 : P1 ++ x1 :: (x2 :: M ++ y1 :: (y2 :: Q)) = (P1 ++ [x1]) ++ x2 :: ((M ++ [y1]) ++ y2 :: Q) := by simp
              rw [e9] at hOS
              rw [e10] at hN9
              have HN9 := Lib.hid hN9
              have HB3 := Lib.hid hB3
              have HOS := Lib.hid hOS
              have HX2 := Lib.hid hXn2
              have HP2 := Lib.hid hP2
              have HPM2 := Lib.hid hPM2
              have w1 : IntKind.i64.wrap ((h : Int) - 1 - (j : Int)) = (q : Int) := by rw [IntKind.wrap_i64]; omega
              have w2 : (h : Int) - 1 - (j : Int) = (q : Int) := by omega
              have w3 : 2 * (j : Int) = (u : Int) := by omega
              have w4 : 2 * (q : Int) = (v : Int) := by omega
              have w5 : (j : Int) < (h : Int) / 2 := by omega
              have w6 : (u : Int) < (i : Int) := by omega
              have w7 : (v : Int) < (i : Int) := by omega
              have w8 : (u1 : Int) < (i : Int) := by omega
              have w9 : (v1 : Int) < (i : Int) := by omega
              have wa : (u : Int) + 1 = (u1 : Int) := by omega
              have wb : (v : Int) + 1 = (v1 : Int) := by omega
              have wc : IntKind.i64.wrap ((u : Int) + 1) = (u1 : Int) := by rw [IntKind.wrap_i64]; omega
              have wd : IntKind.i64.wrap ((v : Int) + 1) = (v1 : Int) := by rw [IntKind.wrap_i64]; omega
              have we : IntKind.i64.wrap (u : Int) = (u : Int) := by rw [IntKind.wrap_i64]; omega
              have wf : IntKind.i64.wrap (v : Int) = (v : Int) := by rw [IntKind.wrap_i64]; omega
              have wi : IntKind.i64.wrap (u1 : Int) = (u1 : Int) := by rw [IntKind.wrap_i64]; omega
              have wj : IntKind.i64.wrap (v1 : Int) = (v1 : Int) := by rw [IntKind.wrap_i64]; omega
              have wg : (0 : Int) ≤ (u1 : Int) := by omega
              have wh : (0 : Int) ≤ (v1 : Int) := by omega
              obtain ⟨a0, ha0⟩ : ∃ a : Addr, (⟨g, 0, none⟩ : Addr) = a := ⟨_, rfl⟩
              have HA4 := Lib.hid (fun k : Nat => (show a0.add k = ⟨g, k, none⟩ by rw [← ha0, spot_add rfl]; simp))
              rw [ha0] at c3
              have HA0 := Lib.hid ha0
              clear ha0 hP hPM hN9 hO hOS hB3 hXn hq hu hv hu1 hv1 e9 e10 hXn2 hP2 hPM2
              have c4 : (((((wr.setCell (a0.add (u * 4)) (.int .i64 x1.k)).setCell (⟨(a0.add (u * 4)).block, (a0.add (u * 4)).off + 1, none⟩) (.string (bs x1.s))).setCell (⟨(a0.add (u * 4)).block, (a0.add (u * 4)).off + 2, none⟩) (.int .i64 x1.n)).setCell (⟨(a0.add (u * 4)).block, (a0.add (u * 4)).off + 3, none⟩) (.slice E2 x1.l.length f2))).cell? ⟨G, 3, none⟩ = some (.slice (some a0) i cv) := (show (puts wr [(a0.add (u * 4), .int .i64 x1.k), (⟨(a0.add (u * 4)).block, (a0.add (u * 4)).off + 1, none⟩, .string (bs x1.s)), (⟨(a0.add (u * 4)).block, (a0.add (u * 4)).off + 2, none⟩, .int .i64 x1.n), (⟨(a0.add (u * 4)).block, (a0.add (u * 4)).off + 3, none⟩, .slice E2 x1.l.length f2)]).cell? ⟨G, 3, none⟩ = some (.slice (some a0) i cv) from (puts_cell _ _ _ (by intro q hq; simp only [HA4.out, List.mem_cons, List.mem_nil_iff, or_false] at hq ⊢; rcases hq with rfl | rfl | rfl | rfl <;> simp <;> omega)).trans c3)
              obtain ⟨d0, d1, d2, d3, d4, d5, d6, d7⟩ : wr.cell? (a0.add (u * 4)) = some (.int .i64 y1.k) ∧ wr.cell? (⟨(a0.add (u * 4)).block, (a0.add (u * 4)).off + 1, none⟩) = some (.string (bs y1.s)) ∧ wr.cell? (⟨(a0.add (u * 4)).block, (a0.add (u * 4)).off + 2, none⟩) = some (.int .i64 y1.n) ∧ wr.cell? (⟨(a0.add (u * 4)).block, (a0.add (u * 4)).off + 3, none⟩) = some (.slice E1 y1.l.length f1) ∧ wr.cell? (a0.add (v * 4)) = some (.int .i64 x1.k) ∧ wr.cell? (⟨(a0.add (v * 4)).block, (a0.add (v * 4)).off + 1, none⟩) = some (.string (bs x1.s)) ∧ wr.cell? (⟨(a0.add (v * 4)).block, (a0.add (v * 4)).off + 2, none⟩) = some (.int .i64 x1.n) ∧ wr.cell? (⟨(a0.add (v * 4)).block, (a0.add (v * 4)).off + 3, none⟩) = some (.slice E2 x1.l.length f2) := by
                simp only [HA4.out]
                exact ⟨c00, c01, c02, c03, c10, c11, c12, c13⟩
              obtain ⟨fz0, fz1, fz2, fz3, fz4, fz5, fz6, fz7⟩ : wr.frozen? (a0.add (u * 4)) = false ∧ wr.frozen? (⟨(a0.add (u * 4)).block, (a0.add (u * 4)).off + 1, none⟩) = false ∧ wr.frozen? (⟨(a0.add (u * 4)).block, (a0.add (u * 4)).off + 2, none⟩) = false ∧ wr.frozen? (⟨(a0.add (u * 4)).block, (a0.add (u * 4)).off + 3, none⟩) = false ∧ wr.frozen? (a0.add (v * 4)) = false ∧ wr.frozen? (⟨(a0.add (v * 4)).block, (a0.add (v * 4)).off + 1, none⟩) = false ∧ wr.frozen? (⟨(a0.add (v * 4)).block, (a0.add (v * 4)).off + 2, none⟩) = false ∧ wr.frozen? (⟨(a0.add (v * 4)).block, (a0.add (v * 4)).off + 3, none⟩) = false := by
                simp only [HA4.out]
                exact ⟨z0 0 (by omega), z0 1 (by omega), z0 2 (by omega), z0 3 (by omega), z1 0 (by omega), z1 1 (by omega), z1 2 (by omega), z1 3 (by omega)⟩
              clear c00 c01 c02 c03 c10 c11 c12 c13 z0 z1
              have s1 : ((wr.setCell (a0.add (u * 4)) (.int .i64 x1.k))).cell? (⟨(a0.add (u * 4)).block, (a0.add (u * 4)).off + 1, none⟩) = some (.string (bs y1.s)) := (show (puts wr [(a0.add (u * 4), .int .i64 x1.k)]).cell? (⟨(a0.add (u * 4)).block, (a0.add (u * 4)).off + 1, none⟩) = some (.string (bs y1.s)) from (puts_cell _ _ _ (by intro q hq; simp only [HA4.out, List.mem_cons, List.mem_nil_iff, or_false] at hq ⊢; rcases hq with rfl <;> simp <;> omega)).trans d1)
              have s2 : (((wr.setCell (a0.add (u * 4)) (.int .i64 x1.k)).setCell (⟨(a0.add (u * 4)).block, (a0.add (u * 4)).off + 1, none⟩) (.string (bs x1.s)))).cell? (⟨(a0.add (u * 4)).block, (a0.add (u * 4)).off + 2, none⟩) = some (.int .i64 y1.n) := (show (puts wr [(a0.add (u * 4), .int .i64 x1.k), (⟨(a0.add (u * 4)).block, (a0.add (u * 4)).off + 1, none⟩, .string (bs x1.s))]).cell? (⟨(a0.add (u * 4)).block, (a0.add (u * 4)).off + 2, none⟩) = some (.int .i64 y1.n) from (puts_cell _ _ _ (by intro q hq; simp only [HA4.out, List.mem_cons, List.mem_nil_iff, or_false] at hq ⊢; rcases hq with rfl | rfl <;> simp <;> omega)).trans d2)
              have s3 : ((((wr.setCell (a0.add (u * 4)) (.int .i64 x1.k)).setCell (⟨(a0.add (u * 4)).block, (a0.add (u * 4)).off + 1, none⟩) (.string (bs x1.s))).setCell (⟨(a0.add (u * 4)).block, (a0.add (u * 4)).off + 2, none⟩) (.int .i64 x1.n))).cell? (⟨(a0.add (u * 4)).block, (a0.add (u * 4)).off + 3, none⟩) = some (.slice E1 y1.l.length f1) := (show (puts wr [(a0.add (u * 4), .int .i64 x1.k), (⟨(a0.add (u * 4)).block, (a0.add (u * 4)).off + 1, none⟩, .string (bs x1.s)), (⟨(a0.add (u * 4)).block, (a0.add (u * 4)).off + 2, none⟩, .int .i64 x1.n)]).cell? (⟨(a0.add (u * 4)).block, (a0.add (u * 4)).off + 3, none⟩) = some (.slice E1 y1.l.length f1) from (puts_cell _ _ _ (by intro q hq; simp only [HA4.out, List.mem_cons, List.mem_nil_iff, or_false] at hq ⊢; rcases hq with rfl | rfl | rfl <;> simp <;> omega)).trans d3)
              have s4 : (((((wr.setCell (a0.add (u * 4)) (.int .i64 x1.k)).setCell (⟨(a0.add (u * 4)).block, (a0.add (u * 4)).off + 1, none⟩) (.string (bs x1.s))).setCell (⟨(a0.add (u * 4)).block, (a0.add (u * 4)).off + 2, none⟩) (.int .i64 x1.n)).setCell (⟨(a0.add (u * 4)).block, (a0.add (u * 4)).off + 3, none⟩) (.slice E2 x1.l.length f2))).cell? (a0.add (v * 4)) = some (.int .i64 x1.k) := (show (puts wr [(a0.add (u * 4), .int .i64 x1.k), (⟨(a0.add (u * 4)).block, (a0.add (u * 4)).off + 1, none⟩, .string (bs x1.s)), (⟨(a0.add (u * 4)).block, (a0.add (u * 4)).off + 2, none⟩, .int .i64 x1.n), (⟨(a0.add (u * 4)).block, (a0.add (u * 4)).off + 3, none⟩, .slice E2 x1.l.length f2)]).cell? (a0.add (v * 4)) = some (.int .i64 x1.k) from (puts_cell _ _ _ (by intro q hq; simp only [HA4.out, List.mem_cons, List.mem_nil_iff, or_false] at hq ⊢; rcases hq with rfl | rfl | rfl | rfl <;> simp <;> omega)).trans d4)
              have s5 : ((((((wr.setCell (a0.add (u * 4)) (.int .i64 x1.k)).setCell (⟨(a0.add (u * 4)).block, (a0.add (u * 4)).off + 1, none⟩) (.string (bs x1.s))).setCell (⟨(a0.add (u * 4)).block, (a0.add (u * 4)).off + 2, none⟩) (.int .i64 x1.n)).setCell (⟨(a0.add (u * 4)).block, (a0.add (u * 4)).off + 3, none⟩) (.slice E2 x1.l.length f2)).setCell (a0.add (v * 4)) (.int .i64 y1.k))).cell? (⟨(a0.add (v * 4)).block, (a0.add (v * 4)).off + 1, none⟩) = some (.string (bs x1.s)) := (show (puts wr [(a0.add (u * 4), .int .i64 x1.k), (⟨(a0.add (u * 4)).block, (a0.add (u * 4)).off + 1, none⟩, .string (bs x1.s)), (⟨(a0.add (u * 4)).block, (a0.add (u * 4)).off + 2, none⟩, .int .i64 x1.n), (⟨(a0.add (u * 4)).block, (a0.add (u * 4)).off + 3, none⟩, .slice E2 x1.l.length f2), (a0.add (v * 4), .int .i64 y1.k)]).cell? (⟨(a0.add (v * 4)).block, (a0.add (v * 4)).off + 1, none⟩) = some (.string (bs x1.s)) from (puts_cell _ _ _ (by intro q hq; simp only [HA4.out, List.mem_cons, List.mem_nil_iff, or_false] at hq ⊢; rcases hq with rfl | rfl | rfl | rfl | rfl <;> simp <;> omega)).trans d5)
              have s6 : (((((((wr.setCell (a0.add (u * 4)) (.int .i64 x1.k)).setCell (⟨(a0.add (u * 4)).block, (a0.add (u * 4)).off + 1, none⟩) (.string (bs x1.s))).setCell (⟨(a0.add (u * 4)).block, (a0.add (u * 4)).off + 2, none⟩) (.int .i64 x1.n)).setCell (⟨(a0.add (u * 4)).block, (a0.add (u * 4)).off + 3, none⟩) (.slice E2 x1.l.length f2)).setCell (a0.add (v * 4)) (.int .i64 y1.k)).setCell (⟨(a0.add (v * 4)).block, (a0.add (v * 4)).off + 1, none⟩) (.string (bs y1.s)))).cell? (⟨(a0.add (v * 4)).block, (a0.add (v * 4)).off + 2, none⟩) = some (.int .i64 x1.n) := (show (puts wr [(a0.add (u * 4), .int .i64 x1.k), (⟨(a0.add (u * 4)).block, (a0.add (u * 4)).off + 1, none⟩, .string (bs x1.s)), (⟨(a0.add (u * 4)).block, (a0.add (u * 4)).off + 2, none⟩, .int .i64 x1.n), (⟨(a0.add (u * 4)).block, (a0.add (u * 4)).off + 3, none⟩, .slice E2 x1.l.length f2), (a0.add (v * 4), .int .i64 y1.k), (⟨(a0.add (v * 4)).block, (a0.add (v * 4)).off + 1, none⟩, .string (bs y1.s))]).cell? (⟨(a0.add (v * 4)).block, (a0.add (v * 4)).off + 2, none⟩) = some (.int .i64 x1.n) from (puts_cell _ _ _ (by intro q hq; simp only [HA4.out, List.mem_cons, List.mem_nil_iff, or_false] at hq ⊢; rcases hq with rfl | rfl | rfl | rfl | rfl | rfl <;> simp <;> omega)).trans d6)
              have s7 : ((((((((wr.setCell (a0.add (u * 4)) (.int .i64 x1.k)).setCell (⟨(a0.add (u * 4)).block, (a0.add (u * 4)).off + 1, none⟩) (.string (bs x1.s))).setCell (⟨(a0.add (u * 4)).block, (a0.add (u * 4)).off + 2, none⟩) (.int .i64 x1.n)).setCell (⟨(a0.add (u * 4)).block, (a0.add (u * 4)).off + 3, none⟩) (.slice E2 x1.l.length f2)).setCell (a0.add (v * 4)) (.int .i64 y1.k)).setCell (⟨(a0.add (v * 4)).block, (a0.add (v * 4)).off + 1, none⟩) (.string (bs y1.s))).setCell (⟨(a0.add (v * 4)).block, (a0.add (v * 4)).off + 2, none⟩) (.int .i64 y1.n))).cell? (⟨(a0.add (v * 4)).block, (a0.add (v * 4)).off + 3, none⟩) = some (.slice E2 x1.l.length f2) := (show (puts wr [(a0.add (u * 4), .int .i64 x1.k), (⟨(a0.add (u * 4)).block, (a0.add (u * 4)).off + 1, none⟩, .string (bs x1.s)), (⟨(a0.add (u * 4)).block, (a0.add (u * 4)).off + 2, none⟩, .int .i64 x1.n), (⟨(a0.add (u * 4)).block, (a0.add (u * 4)).off + 3, none⟩, .slice E2 x1.l.length f2), (a0.add (v * 4), .int .i64 y1.k), (⟨(a0.add (v * 4)).block, (a0.add (v * 4)).off + 1, none⟩, .string (bs y1.s)), (⟨(a0.add (v * 4)).block, (a0.add (v * 4)).off + 2, none⟩, .int .i64 y1.n)]).cell? (⟨(a0.add (v * 4)).block, (a0.add (v * 4)).off + 3, none⟩) = some (.slice E2 x1.l.length f2) from (puts_cell _ _ _ (by intro q hq; simp only [HA4.out, List.mem_cons, List.mem_nil_iff, or_false] at hq ⊢; rcases hq with rfl | rfl | rfl | rfl | rfl | rfl | rfl <;> simp <;> omega)).trans d7)
              have c8 : ((((((((wr.setCell (a0.add (u * 4)) (.int .i64 x1.k)).setCell (⟨(a0.add (u * 4)).block, (a0.add (u * 4)).off + 1, none⟩) (.string (bs x1.s))).setCell (⟨(a0.add (u * 4)).block, (a0.add (u * 4)).off + 2, none⟩) (.int .i64 x1.n)).setCell (⟨(a0.add (u * 4)).block, (a0.add (u * 4)).off + 3, none⟩) (.slice E2 x1.l.length f2)).setCell (a0.add (v * 4)) (.int .i64 y1.k)).setCell (⟨(a0.add (v * 4)).block, (a0.add (v * 4)).off + 1, none⟩) (.string (bs y1.s))).setCell (⟨(a0.add (v * 4)).block, (a0.add (v * 4)).off + 2, none⟩) (.int .i64 y1.n)).setCell (⟨(a0.add (v * 4)).block, (a0.add (v * 4)).off + 3, none⟩) (.slice E1 y1.l.length f1)).cell? ⟨G, 3, none⟩ = some (.slice (some a0) i cv) := (show (puts wr [(a0.add (u * 4), .int .i64 x1.k), (⟨(a0.add (u * 4)).block, (a0.add (u * 4)).off + 1, none⟩, .string (bs x1.s)), (⟨(a0.add (u * 4)).block, (a0.add (u * 4)).off + 2, none⟩, .int .i64 x1.n), (⟨(a0.add (u * 4)).block, (a0.add (u * 4)).off + 3, none⟩, .slice E2 x1.l.length f2), (a0.add (v * 4), .int .i64 y1.k), (⟨(a0.add (v * 4)).block, (a0.add (v * 4)).off + 1, none⟩, .string (bs y1.s)), (⟨(a0.add (v * 4)).block, (a0.add (v * 4)).off + 2, none⟩, .int .i64 y1.n), (⟨(a0.add (v * 4)).block, (a0.add (v * 4)).off + 3, none⟩, .slice E1 y1.l.length f1)]).cell? ⟨G, 3, none⟩ = some (.slice (some a0) i cv) from (puts_cell _ _ _ (by intro q hq; simp only [HA4.out, List.mem_cons, List.mem_nil_iff, or_false] at hq ⊢; rcases hq with rfl | rfl | rfl | rfl | rfl | rfl | rfl | rfl <;> simp <;> omega)).trans c3)
              go_wp2_with fail
              refine swapA_any w3 w4 we wf (by omega) (by omega) w6 w7 c3 c4 c8 d0 d1 d2 d3 d4 d5 d6 d7 fz0 fz1 fz2 fz3 fz4 fz5 fz6 fz7 s1 s2 s3 s4 s5 s6 s7 (fun z81 z82 z83 z84 z85 z86 z87 z88 z89 z90 z91 z92 z93 z94 z95 z96 z97 z98 z99 z100 z101 z102 => ?_)
              clear c8
              have hW4 : ((((((((wr.setCell (a0.add (u * 4)) (.int .i64 x1.k)).setCell (⟨(a0.add (u * 4)).block, (a0.add (u * 4)).off + 1, none⟩) (.string (bs x1.s))).setCell (⟨(a0.add (u * 4)).block, (a0.add (u * 4)).off + 2, none⟩) (.int .i64 x1.n)).setCell (⟨(a0.add (u * 4)).block, (a0.add (u * 4)).off + 3, none⟩) (.slice E2 x1.l.length f2)).setCell (a0.add (v * 4)) (.int .i64 y1.k)).setCell (⟨(a0.add (v * 4)).block, (a0.add (v * 4)).off + 1, none⟩) (.string (bs y1.s))).setCell (⟨(a0.add (v * 4)).block, (a0.add (v * 4)).off + 2, none⟩) (.int .i64 y1.n)).setCell (⟨(a0.add (v * 4)).block, (a0.add (v * 4)).off + 3, none⟩) (.slice E1 y1.l.length f1)) = putAt (putAt wr g (u * 4) (.int .i64 x1.k) (sv x1.s) (.int .i64 x1.n) (.slice E2 x1.l.length f2)) g (v * 4) (.int .i64 y1.k) (sv y1.s) (.int .i64 y1.n) (.slice E1 y1.l.length f1) := by
                simp only [HA4.out]
                rfl
              rw [hW4]
              have hA2 := (hB2.putAt_ (g := g) (by omega) (u * 4) (.int .i64 x1.k) (sv x1.s) (.int .i64 x1.n) (.slice E2 x1.l.length f2)).putAt_ (g := g) (by omega) (v * 4) (.int .i64 y1.k) (sv y1.s) (.int .i64 y1.n) (.slice E1 y1.l.length f1)
              have hA3 := (HB3.out.putAt_ (g := g) (by omega) (u * 4) (.int .i64 x1.k) (sv x1.s) (.int .i64 x1.n) (.slice E2 x1.l.length f2)).putAt_ (g := g) (by omega) (v * 4) (.int .i64 y1.k) (sv y1.s) (.int .i64 y1.n) (.slice E1 y1.l.length f1)
              have hAb := below_putAt (below_putAt hbel (g := g) (by omega) (u * 4) (.int .i64 x1.k) (sv x1.s) (.int .i64 x1.n) (.slice E2 x1.l.length f2)) (g := g) (by omega) (v * 4) (.int .i64 y1.k) (sv y1.s) (.int .i64 y1.n) (.slice E1 y1.l.length f1)
              have hAs : G + 1 ≤ (putAt (putAt wr g (u * 4) (.int .i64 x1.k) (sv x1.s) (.int .i64 x1.n) (.slice E2 x1.l.length f2)) g (v * 4) (.int .i64 y1.k) (sv y1.s) (.int .i64 y1.n) (.slice E1 y1.l.length f1)).heap.size := by rw [putAt_size, putAt_size]; exact hsz
              have hAO := HOS.out
              clear HOS hW4 c3 hB2 HB3 hbel hsz c4 d0 d1 d2 d3 d4 d5 d6 d7 fz0 fz1 fz2 fz3 fz4 fz5 fz6 fz7 s1 s2 s3 s4 s5 s6 s7
              generalize putAt (putAt wr g (u * 4) (.int .i64 x1.k) (sv x1.s) (.int .i64 x1.n) (.slice E2 x1.l.length f2)) g (v * 4) (.int .i64 y1.k) (sv y1.s) (.int .i64 y1.n) (.slice E1 y1.l.length f1) = W4 at hA2 hA3 hAb hAs hAO ⊢
              have hB2 := hA2.drew
              have hB3 := hA3.drew
              have hbel := hAb.drew
              have hsz : G + 1 ≤ W4.drew.heap.size := hAs
              have hO := hAO.drew
              clear hA2 hA3 hAb hAs hAO
              generalize W4.drew = W5 at hB2 hB3 hbel hsz hO ⊢
              obtain ⟨E3, f3, E4, f4, _, _, hgB, hgl, ⟨c00, c01, c02, c03⟩, ⟨c10, c11, c12, c13⟩, z0, z1, hOS⟩ := OR.far2 HX2.out HP2.out HPM2.out hO
              have c3 := hB3.cell 3
              rw [HA0.out] at c3
              have HB3 := Lib.hid hB3
              have HOS := Lib.hid hOS
              clear hO hOS hB3
              have c4 : (((((W5.setCell (a0.add (u1 * 4)) (.int .i64 x2.k)).setCell (⟨(a0.add (u1 * 4)).block, (a0.add (u1 * 4)).off + 1, none⟩) (.string (bs x2.s))).setCell (⟨(a0.add (u1 * 4)).block, (a0.add (u1 * 4)).off + 2, none⟩) (.int .i64 x2.n)).setCell (⟨(a0.add (u1 * 4)).block, (a0.add (u1 * 4)).off + 3, none⟩) (.slice E4 x2.l.length f4))).cell? ⟨G, 3, none⟩ = some (.slice (some a0) i cv) := (show (puts W5 [(a0.add (u1 * 4), .int .i64 x2.k), (⟨(a0.add (u1 * 4)).block, (a0.add (u1 * 4)).off + 1, none⟩, .string (bs x2.s)), (⟨(a0.add (u1 * 4)).block, (a0.add (u1 * 4)).off + 2, none⟩, .int .i64 x2.n), (⟨(a0.add (u1 * 4)).block, (a0.add (u1 * 4)).off + 3, none⟩, .slice E4 x2.l.length f4)]).cell? ⟨G, 3, none⟩ = some (.slice (some a0) i cv) from (puts_cell _ _ _ (by intro q hq; simp only [HA4.out, List.mem_cons, List.mem_nil_iff, or_false] at hq ⊢; rcases hq with rfl | rfl | rfl | rfl <;> simp <;> omega)).trans c3)
              obtain ⟨d0, d1, d2, d3, d4, d5, d6, d7⟩ : W5.cell? (a0.add (u1 * 4)) = some (.int .i64 y2.k) ∧ W5.cell? (⟨(a0.add (u1 * 4)).block, (a0.add (u1 * 4)).off + 1, none⟩) = some (.string (bs y2.s)) ∧ W5.cell? (⟨(a0.add (u1 * 4)).block, (a0.add (u1 * 4)).off + 2, none⟩) = some (.int .i64 y2.n) ∧ W5.cell? (⟨(a0.add (u1 * 4)).block, (a0.add (u1 * 4)).off + 3, none⟩) = some (.slice E3 y2.l.length f3) ∧ W5.cell? (a0.add (v1 * 4)) = some (.int .i64 x2.k) ∧ W5.cell? (⟨(a0.add (v1 * 4)).block, (a0.add (v1 * 4)).off + 1, none⟩) = some (.string (bs x2.s)) ∧ W5.cell? (⟨(a0.add (v1 * 4)).block, (a0.add (v1 * 4)).off + 2, none⟩) = some (.int .i64 x2.n) ∧ W5.cell? (⟨(a0.add (v1 * 4)).block, (a0.add (v1 * 4)).off + 3, none⟩) = some (.slice E4 x2.l.length f4) := by
                simp only [HA4.out]
                exact ⟨c00, c01, c02, c03, c10, c11, c12, c13⟩
              obtain ⟨fz0, fz1, fz2, fz3, fz4, fz5, fz6, fz7⟩ : W5.frozen? (a0.add (u1 * 4)) = false ∧ W5.frozen? (⟨(a0.add (u1 * 4)).block, (a0.add (u1 * 4)).off + 1, none⟩) = false ∧ W5.frozen? (⟨(a0.add (u1 * 4)).block, (a0.add (u1 * 4)).off + 2, none⟩) = false ∧ W5.frozen? (⟨(a0.add (u1 * 4)).block, (a0.add (u1 * 4)).off + 3, none⟩) = false ∧ W5.frozen? (a0.add (v1 * 4)) = false ∧ W5.frozen? (⟨(a0.add (v1 * 4)).block, (a0.add (v1 * 4)).off + 1, none⟩) = false ∧ W5.frozen? (⟨(a0.add (v1 * 4)).block, (a0.add (v1 * 4)).off + 2, none⟩) = false ∧ W5.frozen? (⟨(a0.add (v1 * 4)).block, (a0.add (v1 * 4)).off + 3, none⟩) = false := by
                simp only [HA4.out]
                exact ⟨z0 0 (by omega), z0 1 (by omega), z0 2 (by omega), z0 3 (by omega), z1 0 (by omega), z1 1 (by omega), z1 2 (by omega), z1 3 (by omega)⟩
              clear c00 c01 c02 c03 c10 c11 c12 c13 z0 z1
              have s1 : ((W5.setCell (a0.add (u1 * 4)) (.int .i64 x2.k))).cell? (⟨(a0.add (u1 * 4)).block, (a0.add (u1 * 4)).off + 1, none⟩) = some (.string (bs y2.s)) := (show (puts W5 [(a0.add (u1 * 4), .int .i64 x2.k)]).cell? (⟨(a0.add (u1 * 4)).block, (a0.add (u1 * 4)).off + 1, none⟩) = some (.string (bs y2.s)) from (puts_cell _ _ _ (by intro q hq; simp only [HA4.out, List.mem_cons, List.mem_nil_iff, or_false] at hq ⊢; rcases hq with rfl <;> simp <;> omega)).trans d1)
              have s2 : (((W5.setCell (a0.add (u1 * 4)) (.int .i64 x2.k)).setCell (⟨(a0.add (u1 * 4)).block, (a0.add (u1 * 4)).off + 1, none⟩) (.string (bs x2.s)))).cell? (⟨(a0.add (u1 * 4)).block, (a0.add (u1 * 4)).off + 2, none⟩) = some (.int .i64 y2.n) := (show (puts W5 [(a0.add (u1 * 4), .int .i64 x2.k), (⟨(a0.add (u1 * 4)).block, (a0.add (u1 * 4)).off + 1, none⟩, .string (bs x2.s))]).cell? (⟨(a0.add (u1 * 4)).block, (a0.add (u1 * 4)).off + 2, none⟩) = some (.int .i64 y2.n) from (puts_cell _ _ _ (by intro q hq; simp only [HA4.out, List.mem_cons, List.mem_nil_iff, or_false] at hq ⊢; rcases hq with rfl | rfl <;> simp <;> omega)).trans d2)
              have s3 : ((((W5.setCell (a0.add (u1 * 4)) (.int .i64 x2.k)).setCell (⟨(a0.add (u1 * 4)).block, (a0.add (u1 * 4)).off + 1, none⟩) (.string (bs x2.s))).setCell (⟨(a0.add (u1 * 4)).block, (a0.add (u1 * 4)).off + 2, none⟩) (.int .i64 x2.n))).cell? (⟨(a0.add (u1 * 4)).block, (a0.add (u1 * 4)).off + 3, none⟩) = some (.slice E3 y2.l.length f3) := (show (puts W5 [(a0.add (u1 * 4), .int .i64 x2.k), (⟨(a0.add (u1 * 4)).block, (a0.add (u1 * 4)).off + 1, none⟩, .string (bs x2.s)), (⟨(a0.add (u1 * 4)).block, (a0.add (u1 * 4)).off + 2, none⟩, .int .i64 x2.n)]).cell? (⟨(a0.add (u1 * 4)).block, (a0.add (u1 * 4)).off + 3, none⟩) = some (.slice E3 y2.l.length f3) from (puts_cell _ _ _ (by intro q hq; simp only [HA4.out, List.mem_cons, List.mem_nil_iff, or_false] at hq ⊢; rcases hq with rfl | rfl | rfl <;> simp <;> omega)).trans d3)
              have s4 : (((((W5.setCell (a0.add (u1 * 4)) (.int .i64 x2.k)).setCell (⟨(a0.add (u1 * 4)).block, (a0.add (u1 * 4)).off + 1, none⟩) (.string (bs x2.s))).setCell (⟨(a0.add (u1 * 4)).block, (a0.add (u1 * 4)).off + 2, none⟩) (.int .i64 x2.n)).setCell (⟨(a0.add (u1 * 4)).block, (a0.add (u1 * 4)).off + 3, none⟩) (.slice E4 x2.l.length f4))).cell? (a0.add (v1 * 4)) = some (.int .i64 x2.k) := (show (puts W5 [(a0.add (u1 * 4), .int .i64 x2.k), (⟨(a0.add (u1 * 4)).block, (a0.add (u1 * 4)).off + 1, none⟩, .string (bs x2.s)), (⟨(a0.add (u1 * 4)).block, (a0.add (u1 * 4)).off + 2, none⟩, .int .i64 x2.n), (⟨(a0.add (u1 * 4)).block, (a0.add (u1 * 4)).off + 3, none⟩, .slice E4 x2.l.length f4)]).cell? (a0.add (v1 * 4)) = some (.int .i64 x2.k) from (puts_cell _ _ _ (by intro q hq; simp only [HA4.out, List.mem_cons, List.mem_nil_iff, or_false] at hq ⊢; rcases hq with rfl | rfl | rfl | rfl <;> simp <;> omega)).trans d4)
              have s5 : ((((((W5.setCell (a0.add (u1 * 4)) (.int .i64 x2.k)).setCell (⟨(a0.add (u1 * 4)).block, (a0.add (u1 * 4)).off + 1, none⟩) (.string (bs x2.s))).setCell (⟨(a0.add (u1 * 4)).block, (a0.add (u1 * 4)).off + 2, none⟩) (.int .i64 x2.n)).setCell (⟨(a0.add (u1 * 4)).block, (a0.add (u1 * 4)).off + 3, none⟩) (.slice E4 x2.l.length f4)).setCell (a0.add (v1 * 4)) (.int .i64 y2.k))).cell? (⟨(a0.add (v1 * 4)).block, (a0.add (v1 * 4)).off + 1, none⟩) = some (.string (bs x2.s)) := (show (puts W5 [(a0.add (u1 * 4), .int .i64 x2.k), (⟨(a0.add (u1 * 4)).block, (a0.add (u1 * 4)).off + 1, none⟩, .string (bs x2.s)), (⟨(a0.add (u1 * 4)).block, (a0.add (u1 * 4)).off + 2, none⟩, .int .i64 x2.n), (⟨(a0.add (u1 * 4)).block, (a0.add (u1 * 4)).off + 3, none⟩, .slice E4 x2.l.length f4), (a0.add (v1 * 4), .int .i64 y2.k)]).cell? (⟨(a0.add (v1 * 4)).block, (a0.add (v1 * 4)).off + 1, none⟩) = some (.string (bs x2.s)) from (puts_cell _ _ _ (by intro q hq; simp only [HA4.out, List.mem_cons, List.mem_nil_iff, or_false] at hq ⊢; rcases hq with rfl | rfl | rfl | rfl | rfl <;> simp <;> omega)).trans d5)
              have s6 : (((((((W5.setCell (a0.add (u1 * 4)) (.int .i64 x2.k)).setCell (⟨(a0.add (u1 * 4)).block, (a0.add (u1 * 4)).off + 1, none⟩) (.string (bs x2.s))).setCell (⟨(a0.add (u1 * 4)).block, (a0.add (u1 * 4)).off + 2, none⟩) (.int .i64 x2.n)).setCell (⟨(a0.add (u1 * 4)).block, (a0.add (u1 * 4)).off + 3, none⟩) (.slice E4 x2.l.length f4)).setCell (a0.add (v1 * 4)) (.int .i64 y2.k)).setCell (⟨(a0.add (v1 * 4)).block, (a0.add (v1 * 4)).off + 1, none⟩) (.string (bs y2.s)))).cell? (⟨(a0.add (v1 * 4)).block, (a0.add (v1 * 4)).off + 2, none⟩) = some (.int .i64 x2.n) := (show (puts W5 [(a0.add (u1 * 4), .int .i64 x2.k), (⟨(a0.add (u1 * 4)).block, (a0.add (u1 * 4)).off + 1, none⟩, .string (bs x2.s)), (⟨(a0.add (u1 * 4)).block, (a0.add (u1 * 4)).off + 2, none⟩, .int .i64 x2.n), (⟨(a0.add (u1 * 4)).block, (a0.add (u1 * 4)).off + 3, none⟩, .slice E4 x2.l.length f4), (a0.add (v1 * 4), .int .i64 y2.k), (⟨(a0.add (v1 * 4)).block, (a0.add (v1 * 4)).off + 1, none⟩, .string (bs y2.s))]).cell? (⟨(a0.add (v1 * 4)).block, (a0.add (v1 * 4)).off + 2, none⟩) = some (.int .i64 x2.n) from (puts_cell _ _ _ (by intro q hq; simp only [HA4.out, List.mem_cons, List.mem_nil_iff, or_false] at hq ⊢; rcases hq with rfl | rfl | rfl | rfl | rfl | rfl <;> simp <;> omega)).trans d6)
              have s7 : ((((((((W5.setCell (a0.add (u1 * 4)) (.int .i64 x2.k)).setCell (⟨(a0.add (u1 * 4)).block, (a0.add (u1 * 4)).off + 1, none⟩) (.string (bs x2.s))).setCell (⟨(a0.add (u1 * 4)).block, (a0.add (u1 * 4)).off + 2, none⟩) (.int .i64 x2.n)).setCell (⟨(a0.add (u1 * 4)).block, (a0.add (u1 * 4)).off + 3, none⟩) (.slice E4 x2.l.length f4)).setCell (a0.add (v1 * 4)) (.int .i64 y2.k)).setCell (⟨(a0.add (v1 * 4)).block, (a0.add (v1 * 4)).off + 1, none⟩) (.string (bs y2.s))).setCell (⟨(a0.add (v1 * 4)).block, (a0.add (v1 * 4)).off + 2, none⟩) (.int .i64 y2.n))).cell? (⟨(a0.add (v1 * 4)).block, (a0.add (v1 * 4)).off + 3, none⟩) = some (.slice E4 x2.l.length f4) := (show (puts W5 [(a0.add (u1 * 4), .int .i64 x2.k), (⟨(a0.add (u1 * 4)).block, (a0.add (u1 * 4)).off + 1, none⟩, .string (bs x2.s)), (⟨(a0.add (u1 * 4)).block, (a0.add (u1 * 4)).off + 2, none⟩, .int .i64 x2.n), (⟨(a0.add (u1 * 4)).block, (a0.add (u1 * 4)).off + 3, none⟩, .slice E4 x2.l.length f4), (a0.add (v1 * 4), .int .i64 y2.k), (⟨(a0.add (v1 * 4)).block, (a0.add (v1 * 4)).off + 1, none⟩, .string (bs y2.s)), (⟨(a0.add (v1 * 4)).block, (a0.add (v1 * 4)).off + 2, none⟩, .int .i64 y2.n)]).cell? (⟨(a0.add (v1 * 4)).block, (a0.add (v1 * 4)).off + 3, none⟩) = some (.slice E4 x2.l.length f4) from (puts_cell _ _ _ (by intro q hq; simp only [HA4.out, List.mem_cons, List.mem_nil_iff, or_false] at hq ⊢; rcases hq with rfl | rfl | rfl | rfl | rfl | rfl | rfl <;> simp <;> omega)).trans d7)
              have c8 : ((((((((W5.setCell (a0.add (u1 * 4)) (.int .i64 x2.k)).setCell (⟨(a0.add (u1 * 4)).block, (a0.add (u1 * 4)).off + 1, none⟩) (.string (bs x2.s))).setCell (⟨(a0.add (u1 * 4)).block, (a0.add (u1 * 4)).off + 2, none⟩) (.int .i64 x2.n)).setCell (⟨(a0.add (u1 * 4)).block, (a0.add (u1 * 4)).off + 3, none⟩) (.slice E4 x2.l.length f4)).setCell (a0.add (v1 * 4)) (.int .i64 y2.k)).setCell (⟨(a0.add (v1 * 4)).block, (a0.add (v1 * 4)).off + 1, none⟩) (.string (bs y2.s))).setCell (⟨(a0.add (v1 * 4)).block, (a0.add (v1 * 4)).off + 2, none⟩) (.int .i64 y2.n)).setCell (⟨(a0.add (v1 * 4)).block, (a0.add (v1 * 4)).off + 3, none⟩) (.slice E3 y2.l.length f3)).cell? ⟨G, 3, none⟩ = some (.slice (some a0) i cv) := (show (puts W5 [(a0.add (u1 * 4), .int .i64 x2.k), (⟨(a0.add (u1 * 4)).block, (a0.add (u1 * 4)).off + 1, none⟩, .string (bs x2.s)), (⟨(a0.add (u1 * 4)).block, (a0.add (u1 * 4)).off + 2, none⟩, .int .i64 x2.n), (⟨(a0.add (u1 * 4)).block, (a0.add (u1 * 4)).off + 3, none⟩, .slice E4 x2.l.length f4), (a0.add (v1 * 4), .int .i64 y2.k), (⟨(a0.add (v1 * 4)).block, (a0.add (v1 * 4)).off + 1, none⟩, .string (bs y2.s)), (⟨(a0.add (v1 * 4)).block, (a0.add (v1 * 4)).off + 2, none⟩, .int .i64 y2.n), (⟨(a0.add (v1 * 4)).block, (a0.add (v1 * 4)).off + 3, none⟩, .slice E3 y2.l.length f3)]).cell? ⟨G, 3, none⟩ = some (.slice (some a0) i cv) from (puts_cell _ _ _ (by intro q hq; simp only [HA4.out, List.mem_cons, List.mem_nil_iff, or_false] at hq ⊢; rcases hq with rfl | rfl | rfl | rfl | rfl | rfl | rfl | rfl <;> simp <;> omega)).trans c3)
              go_wp2_with fail
              refine swapB_any w3 w4 we wf wa wb wc wd wi wj wg wh w8 w9 c3 c4 c8 d0 d1 d2 d3 d4 d5 d6 d7 fz0 fz1 fz2 fz3 fz4 fz5 fz6 fz7 s1 s2 s3 s4 s5 s6 s7 (fun z103 z104 z105 z106 z107 z108 z109 z110 z111 z112 z113 z114 z115 z116 z117 z118 z119 z120 z121 z122 z123 z124 z125 z126 z127 z128 => ?_)
              clear c8
              have hW4 : ((((((((W5.setCell (a0.add (u1 * 4)) (.int .i64 x2.k)).setCell (⟨(a0.add (u1 * 4)).block, (a0.add (u1 * 4)).off + 1, none⟩) (.string (bs x2.s))).setCell (⟨(a0.add (u1 * 4)).block, (a0.add (u1 * 4)).off + 2, none⟩) (.int .i64 x2.n)).setCell (⟨(a0.add (u1 * 4)).block, (a0.add (u1 * 4)).off + 3, none⟩) (.slice E4 x2.l.length f4)).setCell (a0.add (v1 * 4)) (.int .i64 y2.k)).setCell (⟨(a0.add (v1 * 4)).block, (a0.add (v1 * 4)).off + 1, none⟩) (.string (bs y2.s))).setCell (⟨(a0.add (v1 * 4)).block, (a0.add (v1 * 4)).off + 2, none⟩) (.int .i64 y2.n)).setCell (⟨(a0.add (v1 * 4)).block, (a0.add (v1 * 4)).off + 3, none⟩) (.slice E3 y2.l.length f3)) = putAt (putAt W5 g (u1 * 4) (.int .i64 x2.k) (sv x2.s) (.int .i64 x2.n) (.slice E4 x2.l.length f4)) g (v1 * 4) (.int .i64 y2.k) (sv y2.s) (.int .i64 y2.n) (.slice E3 y2.l.length f3) := by
                simp only [HA4.out]
                rfl
              rw [hW4]
              have hA2 := (hB2.putAt_ (g := g) (by omega) (u1 * 4) (.int .i64 x2.k) (sv x2.s) (.int .i64 x2.n) (.slice E4 x2.l.length f4)).putAt_ (g := g) (by omega) (v1 * 4) (.int .i64 y2.k) (sv y2.s) (.int .i64 y2.n) (.slice E3 y2.l.length f3)
              have hA3 := (HB3.out.putAt_ (g := g) (by omega) (u1 * 4) (.int .i64 x2.k) (sv x2.s) (.int .i64 x2.n) (.slice E4 x2.l.length f4)).putAt_ (g := g) (by omega) (v1 * 4) (.int .i64 y2.k) (sv y2.s) (.int .i64 y2.n) (.slice E3 y2.l.length f3)
              have hAb := below_putAt (below_putAt hbel (g := g) (by omega) (u1 * 4) (.int .i64 x2.k) (sv x2.s) (.int .i64 x2.n) (.slice E4 x2.l.length f4)) (g := g) (by omega) (v1 * 4) (.int .i64 y2.k) (sv y2.s) (.int .i64 y2.n) (.slice E3 y2.l.length f3)
              have hAs : G + 1 ≤ (putAt (putAt W5 g (u1 * 4) (.int .i64 x2.k) (sv x2.s) (.int .i64 x2.n) (.slice E4 x2.l.length f4)) g (v1 * 4) (.int .i64 y2.k) (sv y2.s) (.int .i64 y2.n) (.slice E3 y2.l.length f3)).heap.size := by rw [putAt_size, putAt_size]; exact hsz
              have HH := Lib.hid (And.intro hA2 (And.intro hA3 (And.intro HOS.out (And.intro hAb hAs))))
              clear hA2 hA3 hAb hAs HOS hW4 c4 d0 d1 d2 d3 d4 d5 d6 d7 fz0 fz1 fz2 fz3 fz4 fz5 fz6 fz7 s1 s2 s3 s4 s5 s6 s7
              generalize putAt (putAt W5 g (u1 * 4) (.int .i64 x2.k) (sv x2.s) (.int .i64 x2.n) (.slice E4 x2.l.length f4)) g (v1 * 4) (.int .i64 y2.k) (sv y2.s) (.int .i64 y2.n) (.slice E3 y2.l.length f3) = W6 at HH ⊢
              go_wp2_with fail
              go_roundw
              case rel =>
                first
                  | exact ⟨j + 1, _, by go_num, HN9, HH.out.1, HH.out.2.1, HH.out.2.2.1, HH.out.2.2.2.1, HH.out.2.2.2.2, by omega⟩
                  | exact ⟨j + 1, _, by go_num, HN9, HH.out.1.drew, HH.out.2.1.drew, HH.out.2.2.1.drew, HH.out.2.2.2.1.drew, HH.out.2.2.2.2, by omega⟩
              case measure => simp [nOf]; omega
            · have w5 : ¬ (j : Int) < (h : Int) / 2 := by omega
              have HX := Lib.hid (HI.out.end_ (by rw [HLen.out, HH2.out]; omega))
              have HXL := Lib.hid HI.out.len
              have k0 := hB2.cell 0
              have k1 := hB2.cell 1
              have k2 := hB2.cell 2
              have k3 := hB2.cell 3
              have z0 := hB2.frozen 0
              have z1 := hB2.frozen 1
              have z2 := hB2.frozen 2
              have z3 := hB2.frozen 3
              have j0 := hB3.cell 0
              have j1 := hB3.cell 1
              have j2 := hB3.cell 2
              have j3 := hB3.cell 3
              have HOF := Lib.hid hO
              have HBF := Lib.hid hbel
              clear hO hbel
              go_wp2_with fail
              refine bodyPost_ret (ret_cell1 rfl _ _ (w.heap.size + 1) _ _ _ _ _ rfl (hB2.put4 _ _ _ _)) rfl ?_
              rw [HF.out]
              have hLX : X.length = i := by rw [HXL.out, HLen.out]
              have hOp := HOF.out.put4 (g := w.heap.size + 1) (by omega) (.int .i64 8) (sv s) (.int .i64 n) (.slice Av i cv)
              have hrv := OR.rv (k := 8) (n := n) (s := s) (S := New w (put4 wr (w.heap.size + 1) (.int .i64 8) (sv s) (.int .i64 n) (.slice Av i cv))) hOp hk1 HN1.out HS1.out hLX.symm (fun b h1 h2 => ⟨by omega, h2⟩)
              have hXe : X = trn 8 Lp := HX.out
              rw [← hXe]
              refine ⟨⟨_, _, ?_, hrv⟩, put4_below HBF.out _ (by omega) _ _ _ _⟩
              show Ending.returned (.agg #[.int .i64 8, sv s, .int .i64 n, (.slice Av i cv)]) = _
              congr 2
              first | rfl | (simp only [Rep.l, hLX]; rfl)
        · have b9 : (k == 9) = false := by simpa using hk9
          have b8 : (k == 8) = false := by simpa using hk8
          have HEQ := Lib.hid (show Lp = trn k Lp by unfold trn; rw [if_neg hk9, if_neg hk8])
          have hB2 := HB2.out
          have hB3 := HB3.out
          clear hk9 hk8
          have k0 := hB2.cell 0
          have k1 := hB2.cell 1
          have k2 := hB2.cell 2
          have k3 := hB2.cell 3
          have z0 := hB2.frozen 0
          have z1 := hB2.frozen 1
          have z2 := hB2.frozen 2
          have z3 := hB2.frozen 3
          have j0 := hB3.cell 0
          have j1 := hB3.cell 1
          have j2 := hB3.cell 2
          go_wp2_with fail
          refine bodyPost_ret (ret_cell1 rfl _ _ (w.heap.size + 1) _ _ _ _ _ rfl (hB2.put4 _ _ _ _)) rfl ?_
          rw [HF.out]
          have hOp := HO.out.put4 (g := w.heap.size + 1) (by omega) (.int .i64 k) (sv s) (.int .i64 n) (.slice Av i cv)
          have hrv := OR.rv (k := k) (n := n) (s := s) (S := New w (put4 wr (w.heap.size + 1) (.int .i64 k) (sv s) (.int .i64 n) (.slice Av i cv))) hOp hk1 HN1.out HS1.out HLen.out.symm (fun b h1 h2 => ⟨by omega, h2⟩)
          rw [← HEQ.out]
          refine ⟨⟨_, _, ?_, hrv⟩, put4_below HBL.out _ (by omega) _ _ _ _⟩
          show Ending.returned (.agg #[.int .i64 k, sv s, .int .i64 n, (.slice Av i cv)]) = _
          congr 2
          first | rfl | (simp only [Rep.l, HLen.out]; rfl)

theorem turned_all : ∀ (N : Nat) (r : Rep), SizeOf.sizeOf r ≤ N → TrnAt r := by
  intro N
  induction N with
  | zero => intro r h; cases r; simp at h
  | succ N ih =>
    intro r h
    obtain ⟨k, s, n, l⟩ := r
    exact turned_step k s n l (fun q hq => ih q (by have := sizeOf_mem (k := k) (n := n) (s := s) hq; omega))
theorem turned_any {r : Rep} {w : World} {cs : List Value} (hok : okS r) (h : Liv w r cs) :
    Calls Try.prog 5 #[.agg cs.toArray] w fun e w' => FRet w w' e (tn r) ∧ Below w.heap.size w w' := turned_all _ r (Nat.le_refl _) w cs hok h
end Go.Proofs.Ytjefpnhffdeekaa
