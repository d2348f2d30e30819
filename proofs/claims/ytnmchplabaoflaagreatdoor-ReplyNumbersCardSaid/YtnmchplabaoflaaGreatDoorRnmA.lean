/- Pairs of parts in memory; reply's Int, Bulks. -/
import Derived.Test.YtnmchplabaoflaaGreatDoorRplS
namespace Go.Proofs.YtnmchplabaoflaaGreatDoor
open Go.RowKit
set_option linter.unusedVariables false

theorem pair_live {w : World} {g : Nat} {k n k1 n1 k2 n2 : Int} {s s1 s2 : List UInt8} (h : Blk w g 24 #[.int .i64 k1, sv s1, .int .i64 n1, .slice none 0 0, .int .i64 k2, sv s2, .int .i64 n2, .slice none 0 0]) (f : fits k ∧ fits n ∧ fits k1 ∧ fits n1 ∧ fits k2 ∧ fits n2) (hs : s.length ≤ maxLen ∧ s1.length ≤ maxLen ∧ s2.length ≤ maxLen) :
    Liv w (.mk k s n [.mk k1 s1 n1 [], .mk k2 s2 n2 []]) [.int .i64 k, sv s, .int .i64 n, .slice (some ⟨g, 0, none⟩) 2 2] := by
  refine RV.mk_ (k := k) (s := s) (n := n) (l := [.mk k1 s1 n1 [], .mk k2 s2 n2 []]) (A := some ⟨g, 0, none⟩) (c := 2) (xs := [.int .i64 k1, sv s1, .int .i64 n1, .slice none 0 0, .int .i64 k2, sv s2, .int .i64 n2, .slice none 0 0]) f.1 f.2.1 hs.1 (Nat.le_refl _) (by unfold maxLen; omega) ⟨rfl, fun _ => ⟨_, rfl, rfl, h.lt, fun j u hu => ?_⟩⟩ ?_
  · rw [spot_add rfl, Nat.zero_add, h.cell j]
    simpa using hu
  · unfold RLs
    exact ⟨[.int .i64 k1, sv s1, .int .i64 n1, .slice none 0 0], [.int .i64 k2, sv s2, .int .i64 n2, .slice none 0 0], rfl, RV.flat_ f.2.2.1 f.2.2.2.1 hs.2.1, RLs.one (RV.flat_ f.2.2.2.2.1 f.2.2.2.2.2 hs.2.2)⟩
set_option maxRecDepth 100000 in
theorem int17_any (n : Int) (w : World) : Calls Tryz.prog 13 #[.int .i64 n] w fun e w' => e = .returned (.agg #[.int .i64 3, .string ⟨#[]⟩, .int .i64 n, .slice none 0 0]) ∧ Below w.heap.size w w' := by
  go_enter Tryz.func13, Tryz.ntmps13
  go_wp2
  refine bodyPost_ret (ret_cell1 rfl _ _ w.heap.size _ _ _ _ _ rfl (Blk.new w _ _)) rfl ?_
  exact ⟨rfl, (Below.refl _ _).alloc (Nat.le_refl _) _⟩
theorem enter_bulk : ∀ args w, (callFunc 14 args).run Tryz.prog w = .ok (.enter 14 args) w :=
  enter_of Tryz.func14 (by kernel_rfl) (by kernel_rfl)

set_option maxRecDepth 100000 in
set_option maxHeartbeats 8000000 in
theorem bulks_any (g N : Nat) (l : List (List UInt8)) (w : World) (hN : l.length = N) (hN1 : N ≤ 100) (hg : g < w.heap.size) (hc : ∀ (i : Nat) (t : List UInt8), l[i]? = some t → w.cell? ⟨g, i, none⟩ = some (sv t)) (hs : ∀ t ∈ l, t.length ≤ maxLen) :
    Calls Tryz.prog 12 #[.slice (some ⟨g, 0, none⟩) N N] w fun e w' => FRet w w' e (.mk 7 [] 0 (l.map bk)) ∧ Below w.heap.size w w' := by
  obtain ⟨i0, hi, hz0, hz1, hz2⟩ := info_parts repinfo
  have HN := Lib.hid hN
  have HC := Lib.hid hc
  have HSS := Lib.hid hs
  have HX0 := Lib.hid (show Below w.heap.size w ((w.alloc (.cells #[.int .i64 0, .string ⟨#[]⟩, .int .i64 0, .slice none 0 0] 24)).alloc (.cells #[.int .i64 7, .string ⟨#[]⟩, .int .i64 0, .slice none 0 0] 24)) from ((Below.refl _ _).alloc (Nat.le_refl _) _).alloc (by simp) _)
  have HX2 := Lib.hid (show Blk ((w.alloc (.cells #[.int .i64 0, .string ⟨#[]⟩, .int .i64 0, .slice none 0 0] 24)).alloc (.cells #[.int .i64 7, .string ⟨#[]⟩, .int .i64 0, .slice none 0 0] 24)) w.heap.size 24 #[.int .i64 0, .string ⟨#[]⟩, .int .i64 0, .slice none 0 0] from (Blk.new w _ _).alloc _)
  have hx3 : Blk ((w.alloc (.cells #[.int .i64 0, .string ⟨#[]⟩, .int .i64 0, .slice none 0 0] 24)).alloc (.cells #[.int .i64 7, .string ⟨#[]⟩, .int .i64 0, .slice none 0 0] 24)) (w.heap.size + 1) 24 #[.int .i64 7, .string ⟨#[]⟩, .int .i64 0, .slice none 0 0] := by
    have := Blk.new (w.alloc (.cells #[.int .i64 0, .string ⟨#[]⟩, .int .i64 0, .slice none 0 0] 24)) 24 #[.int .i64 7, .string ⟨#[]⟩, .int .i64 0, .slice none 0 0]
    rw [World.size_alloc] at this
    exact this
  have HX3 := Lib.hid hx3
  have HZS := Lib.hid (show (((w.alloc (.cells #[.int .i64 0, .string ⟨#[]⟩, .int .i64 0, .slice none 0 0] 24)).alloc (.cells #[.int .i64 7, .string ⟨#[]⟩, .int .i64 0, .slice none 0 0] 24))).heap.size = w.heap.size + 2 by rw [World.size_alloc, World.size_alloc])
  clear hN hc hs hx3
  go_enter Tryz.func12, Tryz.ntmps12
  go_wp2_with fail
  obtain ⟨G, hGe⟩ : ∃ G, w.heap.size + 1 = G := ⟨_, rfl⟩
  have hG : w.heap.size + 1 ≤ G := by omega
  have hG2 : G ≤ w.heap.size + 1 := by omega
  rw [hGe] at HX3
  have HZ2 := Lib.hid (HZS.out.trans (show w.heap.size + 2 = G + 1 by omega))
  try rw [hGe]
  clear hGe
  go_loopw [9] (fun x wr => ∃ i v, i ≤ N ∧ x = .int .i64 (i : Nat) ∧ Blk wr w.heap.size 24 #[.int .i64 0, .string ⟨#[]⟩, .int .i64 0, .slice none 0 0] ∧ Blk wr G 24 #[.int .i64 7, .string ⟨#[]⟩, .int .i64 0, v] ∧ OR wr (G + 1) v ((l.map bk).take i) ∧ Below w.heap.size w wr ∧ G + 1 ≤ wr.heap.size) (fun x _ => N - (nOf x).toNat)
  case atStart => exact ⟨0, _, Nat.zero_le _, rfl, HX2.out, HX3.out, by rw [List.take_zero]; exact OR.nil _ _, HX0.out, by rw [HZ2.out]; omega⟩
  case round =>
    obtain ⟨i, v, him, rfl, hB2, hB3, hO, hbel, hsz⟩ := hrel
    rcases Nat.lt_or_ge i N with hlt | hge
    · have hlt' : (i : Int) < (N : Int) := by omega
      obtain ⟨t, ht⟩ : ∃ t, l[i]? = some t := ⟨_, List.getElem?_eq_getElem (by rw [HN.out]; exact hlt)⟩
      have hct := (hbel.cell (p := ⟨g, i, none⟩) hg).trans (HC.out i t ht)
      have HT := Lib.hid (map_take_succ bk l i ht)
      have HST := Lib.hid (HSS.out t (List.mem_of_getElem? ht))
      have HTl := Lib.hid (show ((l.map bk).take i).length = i by rw [List.length_take, List.length_map, HN.out]; omega)
      obtain ⟨acc, hacc⟩ : ∃ acc, (l.map bk).take i = acc := ⟨_, rfl⟩
      rw [hacc] at hO HT HTl
      obtain ⟨xs1, hown, hrl⟩ := hO
      rw [HTl.out] at hown
      obtain ⟨Av, cv, rfl⟩ := hown.sliceForm
      have HC := Lib.hid (bulk_any (bs t) wr.drew)
      have c3 := hB3.cell 3
      have HB2o := Lib.hid hB2
      have hgo : ∀ kk, (Value.slice Av i cv).ownBlock = some kk → G + 1 ≤ kk := fun kk hkk => (hown.lt kk hkk).1
      clear hB2 hacc ht
      go_wp2_with fail
      go_region_law (first
          | (refine step_call (by rfl) 14 #[.tmp 15] _ (by rfl) _ HC.out (by simp [Act.eval, Act.put, sv]) enter_bulk ?_; rintro e w1 ⟨rfl, hb2⟩; refine ⟨_, rfl, ?_⟩; have hbx : Below wr.heap.size wr w1 := below_trans (Below.refl wr.heap.size wr).drew hb2; have hB3' := hB3.below hbx hB3.lt; have hown1 := hown.below_ hbx; have c3' := (hB3'.alloc (.cells #[.int .i64 4, sv t, .int .i64 0, .slice none 0 0] 24)).cell 3; have c3'' := hB3'.cell 3; have hsz1 : G + 1 ≤ w1.heap.size := Nat.le_trans hsz hbx.size; have hlit : Own (w1.alloc (.cells #[.int .i64 4, sv t, .int .i64 0, .slice none 0 0] 24)) (G + 1) 24 4 (.slice (some ⟨w1.heap.size, 0, none⟩) 1 1) 1 [.int .i64 4, sv t, .int .i64 0, .slice none 0 0] := Own.lit (base := G + 1) (e := 24) (size := 4) w1 #[.int .i64 4, sv t, .int .i64 0, .slice none 0 0] 1 hsz1 (by decide) rfl; have HB12 := Lib.hid (hB3'.alloc (.cells #[.int .i64 4, sv t, .int .i64 0, .slice none 0 0] 24)); have hone : ∀ v ∈ ([.int .i64 4, sv t, .int .i64 0, .slice none 0 0] : List Value), v.oneCell' = true := (by intro v hv; simp at hv; rcases hv with rfl | rfl | rfl | rfl <;> rfl))
          | (refine (step_append_Own _ (by rfl) (.tmp 14) (.tmp 17) _ _ (by rfl) (G + 1) 24 i0 _ 4 56 Tryz.underlying22 hi hz0 hz1 hz2 rfl (.slice Av i cv) i xs1 (by rfl) (hown1.alloc _) _ 1 [.int .i64 4, sv t, .int .i64 0, .slice none 0 0] (by rfl) (Src.own hlit Tryz.underlying22 hone (by decide)) (by unfold maxLen; omega) (by omega) (by simp; omega) ?_); intro v4 w4 hO4 hg4 hat; obtain ⟨A4, c4, rfl⟩ := hO4.sliceForm; have hB13 := HB12.out.grown hg4 (fun e => by have := hgo _ e.symm; omega); have j3 := hB13.cell 3; have z3 := hB13.frozen 3))
      all_goals
        have hrl4 := RLs.push (r := bk t) hsz hown hrl hbx (RV.flat_ (s := t) (by unfold fits; omega) (by unfold fits; omega) HST.out) ((Below.refl w1.heap.size w1).alloc (Nat.le_refl _) (.cells #[.int .i64 4, sv t, .int .i64 0, .slice none 0 0] 24)) hg4 (by simpa using hat)
        have hO5 : OR (w4.setCell ⟨G, 3, none⟩ (.slice A4 (i + 1) c4)) (G + 1) (.slice A4 (i + 1) c4) ((l.map bk).take (i + 1)) := by
          have h4 : OR w4 (G + 1) (.slice A4 (i + 1) c4) ((l.map bk).take (i + 1)) :=
            ⟨xs1 ++ [.int .i64 4, sv t, .int .i64 0, .slice none 0 0], by rw [HT.out, List.length_append, HTl.out]; exact hO4, by rw [HT.out]; exact hrl4⟩
          exact h4.far (by omega) 3 _
        have hB25 : Blk (w4.setCell ⟨G, 3, none⟩ (.slice A4 (i + 1) c4)) w.heap.size 24 #[.int .i64 0, .string ⟨#[]⟩, .int .i64 0, .slice none 0 0] := (((HB2o.out.below hbx HB2o.out.lt).alloc _).grown hg4 (fun e => by have := hgo _ e.symm; omega)).far (by simp; omega) _
        have hB35 : Blk (w4.setCell ⟨G, 3, none⟩ (.slice A4 (i + 1) c4)) G 24 #[.int .i64 7, .string ⟨#[]⟩, .int .i64 0, .slice A4 (i + 1) c4] := hB13.set_ 3 _
        have hbf : Below w.heap.size w (w4.setCell ⟨G, 3, none⟩ (.slice A4 (i + 1) c4)) :=
          below_set (((hbel.trans (hbx.mono hbel.size)).alloc (Nat.le_trans hbel.size hbx.size) _).grown hg4 (by have := hbel.size; have := hbx.size; simp; omega) (fun k hk => by have := hgo k hk; omega)) (by omega) 3 _
        have hszf : G + 1 ≤ (w4.setCell ⟨G, 3, none⟩ (.slice A4 (i + 1) c4)).heap.size := by
          rw [World.size_setCell]; have := hg4.size; simp at this; omega
        have HH := Lib.hid (And.intro hB25 (And.intro hB35 (And.intro hO5 (And.intro hbf hszf))))
        clear hB25 hB35 hO5 hbf hszf hrl4
        go_wp2_with fail
        go_roundw
        case rel =>
          first
            | exact ⟨i + 1, _, by omega, by go_num, HH.out.1, HH.out.2.1, HH.out.2.2.1, HH.out.2.2.2.1, HH.out.2.2.2.2⟩
            | ((repeat apply Exists.intro); exact ⟨⟨i + 1, _, by omega, by go_num, HH.out.1, HH.out.2.1, HH.out.2.2.1, HH.out.2.2.2.1, HH.out.2.2.2.2⟩, rfl⟩)
        case measure => simp [nOf]; omega
    · have hiN : i = N := by omega
      subst hiN
      have hfull : (l.map bk).take i = l.map bk := List.take_of_length_le (by rw [List.length_map, HN.out]; exact Nat.le_refl _)
      rw [hfull] at hO
      have HLF := Lib.hid (show (l.map bk).length = i by rw [List.length_map, HN.out])
      obtain ⟨Lp, hLp⟩ : ∃ L, l.map bk = L := ⟨_, rfl⟩
      have HLP := Lib.hid hLp
      rw [hLp] at hO HLF
      clear hfull hLp
      obtain ⟨Av, cv, rfl⟩ := hO.form
      rw [HLF.out] at hB3 hO
      have hi1 : ¬ (i : Int) < (i : Int) := by omega
      have HOF := Lib.hid hO
      have HBF := Lib.hid hbel
      have hb2 := hB2
      have x2 := hB2.x4
      have z0 := hb2.frozen 0
      have z1 := hb2.frozen 1
      have z2 := hb2.frozen 2
      have z3 := hb2.frozen 3
      have x3 := hB3.x4
      clear hO hbel
      go_wp2_with fail
      refine bodyPost_ret (ret_cell1 rfl _ _ w.heap.size _ _ _ _ _ rfl (hb2.put4 _ _ _ _)) rfl ?_
      rw [HLP.out]
      have hOp := HOF.out.put4 (g := w.heap.size) (by omega) (.int .i64 7) (.string ⟨#[]⟩) (.int .i64 0) (.slice Av i cv)
      have hrv := OR.rv (k := 7) (n := 0) (s := []) (S := New w (put4 wr w.heap.size (.int .i64 7) (.string ⟨#[]⟩) (.int .i64 0) (.slice Av i cv))) hOp (by unfold fits; omega) (by unfold fits; omega) (Nat.zero_le _) HLF.out.symm (fun b h1 h2 => ⟨by omega, h2⟩)
      refine ⟨⟨_, _, ?_, hrv⟩, put4_below HBF.out _ (Nat.le_refl _) _ _ _ _⟩
      show Ending.returned (.agg #[.int .i64 7, .string ⟨#[]⟩, .int .i64 0, (.slice Av i cv)]) = _
      congr 2
      first | rfl | (simp only [Rep.l, HLF.out]; rfl)
end Go.Proofs.YtnmchplabaoflaaGreatDoor
