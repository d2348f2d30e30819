/- The walk of the document's answer's Sorted (tallboyref17). -/
import Derived.Test.YtnmchplabaoflaaGreatDoorRtrC
namespace Go.Proofs.YtnmchplabaoflaaGreatDoor
open Go.RowKit
set_option linter.unusedVariables false

/-- The same but for one block. -/
def KeepG (w w' : World) (g : Nat) : Prop := w.heap.size ≤ w'.heap.size ∧ ∀ p : Addr, p.block < w.heap.size → p.block ≠ g → w'.cell? p = w.cell? p
theorem KeepG.refl (w : World) (g : Nat) : KeepG w w g := ⟨Nat.le_refl _, fun _ _ _ => rfl⟩
theorem KeepG.drew {w w' : World} {g : Nat} (h : KeepG w w' g) : KeepG w w'.drew g := ⟨h.1, fun p a b => h.2 p a b⟩
theorem KeepG.grown {w w' w2 : World} {g : Nat} {row : Option Nat} (h : KeepG w w' g) (hg : w'.grownBy w2 row) (hr : ∀ j, row = some j → w.heap.size ≤ j) : KeepG w w2 g :=
  ⟨Nat.le_trans h.1 hg.size, fun p a b => (World.cell?_of_block (hg.block _ (Nat.lt_of_lt_of_le a h.1) (fun e => by have := hr _ e.symm; omega))).trans (h.2 p a b)⟩
theorem KeepG.set_ {w w' : World} {g : Nat} (h : KeepG w w' g) (i : Nat) (u : Value) : KeepG w (w'.setCell ⟨g, i, none⟩ u) g :=
  ⟨by rw [World.size_setCell]; exact h.1, fun p a b => (World.cell?_setCell_far w' ⟨g, i, none⟩ p u (fun e => b e.symm)).trans (h.2 p a b)⟩
theorem two_of {ps : List (List Rep)} {i : Nat} {r : Rep} (h : (ps.map two7)[i]? = some r) : ∃ p, ps[i]? = some p ∧ r = two7 p := by
  rw [List.getElem?_map] at h
  obtain ⟨p, h1, h2⟩ := Option.map_eq_some_iff.1 h
  exact ⟨p, h1, h2.symm⟩
theorem isort_flat_take (l : List Rep) (k : Nat) (h : k ≤ (prs l).length) : (((isort ltpo (prs l)).take k).flatten).length = 2 * k := by
  rw [prs_flat_len _ (fun p hp => prs_two p ((isort_perm ltpo (prs l)).mem_iff.1 (List.mem_of_mem_take hp))), List.length_take, isort_len]; omega
theorem RD.cut {w : World} {S : Nat → Prop} {A : Option Addr} {n : Nat} {xs : List Value} (h : RD w S A n xs) {k cap : Nat} (hk : k ≤ n) (hc : n ≤ cap) :
    RD w S (if cap = k then A else A.map (·.add (k * 4))) (n - k) (xs.drop (k * 4)) := by
  refine ⟨by rw [List.length_drop, h.1, Nat.sub_mul], fun hn => ?_⟩
  obtain ⟨ad, rfl, hs, hb, hcell⟩ := h.2 (by omega)
  rw [if_neg (by omega)]
  refine ⟨ad.add (k * 4), rfl, by rw [spot_add hs], by rw [block_of_add]; exact hb, fun j u hu => ?_⟩
  rw [add_of_add]
  exact hcell _ u (by rw [← hu, List.getElem?_drop])

set_option maxRecDepth 100000 in
set_option maxHeartbeats 4000000 in
theorem rsorted_none (k : Int) (s : List UInt8) (n : Int) (A0 : Option Addr) (c0 N : Nat) (w : World) (h : prt k = false) :
    Calls Tryz.prog 20 #[.agg #[.int .i64 k, sv s, .int .i64 n, .slice A0 N c0]] w fun e w' => e = .returned (.agg #[.int .i64 k, sv s, .int .i64 n, .slice A0 N c0]) ∧ Below w.heap.size w w' := by
  have HX0 := Lib.hid (show Below w.heap.size w ((w.alloc (.cells #[.int .i64 k, sv s, .int .i64 n, .slice A0 N c0] 24)).alloc (.cells #[.int .i64 k, sv s, .int .i64 n, .slice A0 N c0] 24)) from ((Below.refl _ _).alloc (Nat.le_refl _) _).alloc (by simp) _)
  have hx2 : Blk ((w.alloc (.cells #[.int .i64 k, sv s, .int .i64 n, .slice A0 N c0] 24)).alloc (.cells #[.int .i64 k, sv s, .int .i64 n, .slice A0 N c0] 24)) (w.heap.size + 1) 24 #[.int .i64 k, sv s, .int .i64 n, .slice A0 N c0] := by
    have := Blk.new (w.alloc (.cells #[.int .i64 k, sv s, .int .i64 n, .slice A0 N c0] 24)) 24 #[.int .i64 k, sv s, .int .i64 n, .slice A0 N c0]
    rwa [World.size_alloc] at this
  have HX2 := Lib.hid hx2
  obtain ⟨t1, ht1⟩ : ∃ t, txt k = t := ⟨_, rfl⟩
  obtain ⟨t2, ht2⟩ : ∃ t, decide (k = 3) = t := ⟨_, rfl⟩
  have HSH := Lib.hid (fun w1 => shows_is (k := k) w1 ht1 ht2 h)
  clear hx2 h ht1 ht2
  go_enter Tryz.func20, Tryz.ntmps20
  go_wp2_with fail
  refine (HSH.out _).mono ?_
  rintro e w1 ⟨rfl, rfl⟩
  go_wp2_with fail
  refine bodyPost_ret (ret_cell1 rfl _ _ (w.heap.size + 1) _ _ _ _ _ rfl HX2.out) rfl ?_
  exact ⟨rfl, HX0.out⟩

set_option maxRecDepth 100000 in
set_option maxHeartbeats 32000000 in
theorem rsorted_prt (k : Int) (s : List UInt8) (n : Int) (l : List Rep) (ih : ∀ r ∈ l, RsrtAt r) (hp : prt k = true) : RsrtAt (.mk k s n l) := by
  intro w cs hok hr
  obtain ⟨i0, hi, hz0, hz1, hz2⟩ := info_parts repinfo
  obtain ⟨hl19, _, hoks⟩ : l.length ≤ 19 ∧ (l = [] ∨ prt k = true) ∧ okPs l := by unfold okP at hok; exact hok
  obtain ⟨L, rfl, hL, hk1, hn1, hs1⟩ := hr.parts
  obtain ⟨A0, c0, xs, rfl, hlc1, hcm1, hd1, hl1⟩ := hL
  have hHF : rsrt (.mk k s n l) = .mk k s n (arrO k (l.map rsrt)) := by rw [rsrt_mk, if_pos hp]
  have HF := Lib.hid hHF
  have h3' : ¬ k = 3 := by intro e; rw [e] at hp; exact absurd hp (by decide)
  obtain ⟨t1, ht1⟩ : ∃ t, txt k = t := ⟨_, rfl⟩
  obtain ⟨t2, ht2⟩ : ∃ t, decide (k = 3) = t := ⟨_, rfl⟩
  have HSH := Lib.hid (fun w1 => shows_is (k := k) w1 ht1 ht2 hp)
  clear ht1 ht2 h3'
  obtain ⟨N, hN⟩ : ∃ N, l.length = N := ⟨_, rfl⟩
  have HN := Lib.hid hN
  rw [hN] at hlc1 hl19 hd1 ⊢
  have HD := Lib.hid hd1
  have HL := Lib.hid hl1
  have HOKS := Lib.hid hoks
  have hc1 : c0 ≤ 9223372036854775807 := by unfold maxLen at hcm1; omega
  have HX0 := Lib.hid (show Below w.heap.size w (((w.alloc (.cells #[.int .i64 k, sv s, .int .i64 n, .slice A0 N c0] 24)).alloc (.cells #[.int .i64 0, .string ⟨#[]⟩, .int .i64 0, .slice none 0 0] 24)).alloc (.cells #[.int .i64 k, sv s, .int .i64 n, .slice none 0 0] 24)) from (((Below.refl _ _).alloc (Nat.le_refl _) _).alloc (by simp) _).alloc (by simp; omega) _)
  have HX1 := Lib.hid (show Blk (((w.alloc (.cells #[.int .i64 k, sv s, .int .i64 n, .slice A0 N c0] 24)).alloc (.cells #[.int .i64 0, .string ⟨#[]⟩, .int .i64 0, .slice none 0 0] 24)).alloc (.cells #[.int .i64 k, sv s, .int .i64 n, .slice none 0 0] 24)) w.heap.size 24 #[.int .i64 k, sv s, .int .i64 n, .slice A0 N c0] from ((Blk.new w _ _).alloc _).alloc _)
  have hx2 : Blk (((w.alloc (.cells #[.int .i64 k, sv s, .int .i64 n, .slice A0 N c0] 24)).alloc (.cells #[.int .i64 0, .string ⟨#[]⟩, .int .i64 0, .slice none 0 0] 24)).alloc (.cells #[.int .i64 k, sv s, .int .i64 n, .slice none 0 0] 24)) (w.heap.size + 1) 24 #[.int .i64 0, .string ⟨#[]⟩, .int .i64 0, .slice none 0 0] := by
    have := Blk.new (w.alloc (.cells #[.int .i64 k, sv s, .int .i64 n, .slice A0 N c0] 24)) 24 #[.int .i64 0, .string ⟨#[]⟩, .int .i64 0, .slice none 0 0]
    rw [World.size_alloc] at this
    exact this.alloc _
  have hx3 : Blk (((w.alloc (.cells #[.int .i64 k, sv s, .int .i64 n, .slice A0 N c0] 24)).alloc (.cells #[.int .i64 0, .string ⟨#[]⟩, .int .i64 0, .slice none 0 0] 24)).alloc (.cells #[.int .i64 k, sv s, .int .i64 n, .slice none 0 0] 24)) (w.heap.size + 2) 24 #[.int .i64 k, sv s, .int .i64 n, .slice none 0 0] := by
    have := Blk.new ((w.alloc (.cells #[.int .i64 k, sv s, .int .i64 n, .slice A0 N c0] 24)).alloc (.cells #[.int .i64 0, .string ⟨#[]⟩, .int .i64 0, .slice none 0 0] 24)) 24 #[.int .i64 k, sv s, .int .i64 n, .slice none 0 0]
    rw [World.size_alloc, World.size_alloc] at this
    exact this
  have HX2 := Lib.hid hx2
  have HX3 := Lib.hid hx3
  have HZS := Lib.hid (show ((((w.alloc (.cells #[.int .i64 k, sv s, .int .i64 n, .slice A0 N c0] 24)).alloc (.cells #[.int .i64 0, .string ⟨#[]⟩, .int .i64 0, .slice none 0 0] 24)).alloc (.cells #[.int .i64 k, sv s, .int .i64 n, .slice none 0 0] 24))).heap.size = w.heap.size + 3 by rw [World.size_alloc, World.size_alloc, World.size_alloc])
  clear hok hd1 hl1 hN hr hoks hp hHF hx2 hx3
  go_enter Tryz.func20, Tryz.ntmps20
  go_wp2_with fail
  refine (HSH.out _).mono ?_
  rintro e w1 ⟨rfl, rfl⟩
  go_wp2_with fail
  obtain ⟨G, hGe⟩ : ∃ G, w.heap.size + 2 = G := ⟨_, rfl⟩
  have hG : w.heap.size + 2 ≤ G := by omega
  rw [hGe] at HX3
  have HZ2 := Lib.hid (HZS.out.trans (show w.heap.size + 3 = G + 1 by omega))
  try rw [hGe]
  clear hGe
  go_loopw [7] (fun x wr => ∃ i v, i ≤ N ∧ x = .int .i64 (i : Nat) ∧ Blk wr w.heap.size 24 #[.int .i64 k, sv s, .int .i64 n, .slice A0 N c0] ∧ Blk wr (w.heap.size + 1) 24 #[.int .i64 0, .string ⟨#[]⟩, .int .i64 0, .slice none 0 0] ∧ Blk wr G 24 #[.int .i64 k, sv s, .int .i64 n, v] ∧ OR wr (G + 1) v ((l.map rsrt).take i) ∧ Below w.heap.size w wr ∧ G + 1 ≤ wr.heap.size) (fun x _ => N - (nOf x).toNat)
  case atStart => exact ⟨0, _, Nat.zero_le _, rfl, HX1.out, HX2.out, HX3.out, by rw [List.take_zero]; exact OR.nil _ _, HX0.out, by rw [HZ2.out]; omega⟩
  case round =>
    obtain ⟨i, v, him, rfl, hB1, hB2, hB3, hO, hbel, hsz⟩ := hrel
    rcases Nat.lt_or_ge i N with hlt | hge
    · obtain ⟨a1, r1, E1, f1, rfl, hSa1, hr1, hv1, p0, p1, p2, p3⟩ := (HD.out.keep (fun p hp => hbel.cell hp)).at_ (HL.out.keep (fun p hp => hbel.cell hp)) HN.out hlt
      have hlt' : (i : Int) < (N : Int) := by omega
      have hmem1 := List.mem_of_getElem? hr1
      have HT := Lib.hid (map_take_succ rsrt l i hr1)
      have HTl := Lib.hid (show ((l.map rsrt).take i).length = i by rw [List.length_take, List.length_map, HN.out]; omega)
      obtain ⟨acc, hacc⟩ : ∃ acc, (l.map rsrt).take i = acc := ⟨_, rfl⟩
      rw [hacc] at hO HT HTl
      obtain ⟨xs1, hown, hrl⟩ := hO
      rw [HTl.out] at hown
      obtain ⟨Av, cv, rfl⟩ := hown.sliceForm
      have HC := Lib.hid (ih r1 hmem1 wr.drew [.int .i64 r1.k, sv r1.s, .int .i64 r1.n, .slice E1 r1.l.length f1] (okPs_mem HOKS.out hmem1)
        (RV.drew_ (w := wr) (RV.mono (fun b hb => Nat.lt_of_lt_of_le hb hbel.size) hv1)))
      have c3 := hB3.cell 3
      have m3 := hB1.cell 3
      clear hacc hv1 hr1 hmem1
      have HB1o := Lib.hid hB1
      have HB2o := Lib.hid hB2
      have hgo : ∀ kk, (Value.slice Av i cv).ownBlock = some kk → G + 1 ≤ kk := fun kk hkk => (hown.lt kk hkk).1
      clear hB1 hB2
      go_wp2_with fail
      go_region_law (first
          | (refine step_call (by rfl) 20 #[.tmp 42] _ (by rfl) _ HC.out (by simp [Act.eval]) enter_rsorted ?_; rintro e w1 ⟨⟨E2, f2, rfl, hv⟩, hb2⟩; refine ⟨_, rfl, ?_⟩; have hbx : Below wr.heap.size wr w1 := below_trans (Below.refl wr.heap.size wr).drew hb2; have hB3' := hB3.below hbx hB3.lt; have hown1 := hown.below_ hbx; have c3' := (hB3'.alloc (.cells #[.int .i64 (rsrt r1).k, sv (rsrt r1).s, .int .i64 (rsrt r1).n, .slice E2 (rsrt r1).l.length f2] 24)).cell 3; have c3'' := hB3'.cell 3; have hsz1 : G + 1 ≤ w1.heap.size := Nat.le_trans hsz hbx.size; have hlit : Own (w1.alloc (.cells #[.int .i64 (rsrt r1).k, sv (rsrt r1).s, .int .i64 (rsrt r1).n, .slice E2 (rsrt r1).l.length f2] 24)) (G + 1) 24 4 (.slice (some ⟨w1.heap.size, 0, none⟩) 1 1) 1 [.int .i64 (rsrt r1).k, sv (rsrt r1).s, .int .i64 (rsrt r1).n, .slice E2 (rsrt r1).l.length f2] := Own.lit (base := G + 1) (e := 24) (size := 4) w1 #[.int .i64 (rsrt r1).k, sv (rsrt r1).s, .int .i64 (rsrt r1).n, .slice E2 (rsrt r1).l.length f2] 1 hsz1 (by decide) rfl; have HB12 := Lib.hid (hB3'.alloc (.cells #[.int .i64 (rsrt r1).k, sv (rsrt r1).s, .int .i64 (rsrt r1).n, .slice E2 (rsrt r1).l.length f2] 24)); have hone : ∀ v ∈ ([.int .i64 (rsrt r1).k, sv (rsrt r1).s, .int .i64 (rsrt r1).n, .slice E2 (rsrt r1).l.length f2] : List Value), v.oneCell' = true := (by intro v hv; simp at hv; rcases hv with rfl | rfl | rfl | rfl <;> rfl))
          | (refine (step_append_Own _ (by rfl) (.tmp 37) (.tmp 44) _ _ (by rfl) (G + 1) 24 i0 _ 4 56 Tryz.underlying22 hi hz0 hz1 hz2 rfl (.slice Av i cv) i xs1 (by rfl) (hown1.alloc _) _ 1 [.int .i64 (rsrt r1).k, sv (rsrt r1).s, .int .i64 (rsrt r1).n, .slice E2 (rsrt r1).l.length f2] (by rfl) (Src.own hlit Tryz.underlying22 hone (by decide)) (by unfold maxLen; omega) (by omega) (by simp; omega) ?_); intro v4 w4 hO4 hg4 hat; obtain ⟨A4, c4, rfl⟩ := hO4.sliceForm; have hB13 := HB12.out.grown hg4 (fun e => by have := hgo _ e.symm; omega); have j3 := hB13.cell 3; have z3 := hB13.frozen 3))
      all_goals
        have hrl4 := RLs.push hsz hown hrl hbx (RV.mono (fun b hb => ⟨hb.1, hb.2⟩) hv) ((Below.refl w1.heap.size w1).alloc (Nat.le_refl _) (.cells #[.int .i64 (rsrt r1).k, sv (rsrt r1).s, .int .i64 (rsrt r1).n, .slice E2 (rsrt r1).l.length f2] 24)) hg4 (by simpa using hat)
        have hO5 : OR (w4.setCell ⟨G, 3, none⟩ (.slice A4 (i + 1) c4)) (G + 1) (.slice A4 (i + 1) c4) ((l.map rsrt).take (i + 1)) := by
          have h4 : OR w4 (G + 1) (.slice A4 (i + 1) c4) ((l.map rsrt).take (i + 1)) :=
            ⟨xs1 ++ [.int .i64 (rsrt r1).k, sv (rsrt r1).s, .int .i64 (rsrt r1).n, .slice E2 (rsrt r1).l.length f2], by rw [HT.out, List.length_append, HTl.out]; exact hO4, by rw [HT.out]; exact hrl4⟩
          exact h4.far (by omega) 3 _
        have hB15 : Blk (w4.setCell ⟨G, 3, none⟩ (.slice A4 (i + 1) c4)) w.heap.size 24 #[.int .i64 k, sv s, .int .i64 n, .slice (some a1) N c0] := (((HB1o.out.below hbx HB1o.out.lt).alloc _).grown hg4 (fun e => by have := hgo _ e.symm; omega)).far (by simp; omega) _
        have hB25 : Blk (w4.setCell ⟨G, 3, none⟩ (.slice A4 (i + 1) c4)) (w.heap.size + 1) 24 #[.int .i64 0, .string ⟨#[]⟩, .int .i64 0, .slice none 0 0] := (((HB2o.out.below hbx HB2o.out.lt).alloc _).grown hg4 (fun e => by have := hgo _ e.symm; omega)).far (by simp; omega) _
        have hB35 : Blk (w4.setCell ⟨G, 3, none⟩ (.slice A4 (i + 1) c4)) G 24 #[.int .i64 k, sv s, .int .i64 n, .slice A4 (i + 1) c4] := hB13.set_ 3 _
        have hbf : Below w.heap.size w (w4.setCell ⟨G, 3, none⟩ (.slice A4 (i + 1) c4)) :=
          below_set (((hbel.trans (hbx.mono hbel.size)).alloc (Nat.le_trans hbel.size hbx.size) _).grown hg4 (by have := hbel.size; have := hbx.size; simp; omega) (fun k hk => by have := hgo k hk; omega)) (by omega) 3 _
        have hszf : G + 1 ≤ (w4.setCell ⟨G, 3, none⟩ (.slice A4 (i + 1) c4)).heap.size := by
          rw [World.size_setCell]; have := hg4.size; simp at this; omega
        have HH := Lib.hid (And.intro hB15 (And.intro hB25 (And.intro hB35 (And.intro hO5 (And.intro hbf hszf)))))
        clear hB15 hB25 hB35 hO5 hbf hszf hrl4
        go_wp2_with fail
        go_roundw
        case rel =>
          first
            | exact ⟨i + 1, _, by omega, by go_num, HH.out.1, HH.out.2.1, HH.out.2.2.1, HH.out.2.2.2.1, HH.out.2.2.2.2.1, HH.out.2.2.2.2.2⟩
            | ((repeat apply Exists.intro); exact ⟨⟨i + 1, _, by omega, by go_num, HH.out.1, HH.out.2.1, HH.out.2.2.1, HH.out.2.2.2.1, HH.out.2.2.2.2.1, HH.out.2.2.2.2.2⟩, rfl⟩)
        case measure => simp [nOf]; omega
    · have hiN : i = N := by omega
      subst hiN
      have hfull : (l.map rsrt).take i = l.map rsrt := List.take_of_length_le (by rw [List.length_map, HN.out]; exact Nat.le_refl _)
      rw [hfull] at hO
      have HLen := Lib.hid (show (l.map rsrt).length = i by rw [List.length_map, HN.out])
      obtain ⟨Lp, hLp⟩ : ∃ L, l.map rsrt = L := ⟨_, rfl⟩
      rw [hLp] at hO HLen HF
      clear hfull hLp
      obtain ⟨Av, cv, rfl⟩ := hO.form
      rw [HLen.out] at hB3 hO
      have hi1 : ¬ (i : Int) < (i : Int) := by omega
      have m0 := hB1.cell 0
      have m3 := hB1.cell 3
      have hgo : ∀ kk, (Value.slice Av i cv).ownBlock = some kk → G + 1 ≤ kk := fun kk hkk => (hO.lt kk hkk).1
      by_cases hk9 : k = 9
      · subst hk9
        have HS := Lib.hid (rise_any Lp wr hO HLen.out (by omega) hsz)
        have c3 := hB3.cell 3
        have HB2o := Lib.hid hB2
        have HB3o := Lib.hid hB3
        have HBL := Lib.hid hbel
        clear hB1 hB2 hB3 hO hbel
        go_wp2_with fail
        refine HS.out.mono ?_
        rintro e w2 ⟨v2, rfl, hor2, hbr⟩
        obtain ⟨A4, c4, rfl⟩ := hor2.form
        rw [show (isort lto Lp).length = i by rw [isort_len, HLen.out]] at hor2 ⊢
        have hb2 := HB2o.out.below hbr HB2o.out.lt
        have hb3' := HB3o.out.below hbr HB3o.out.lt
        have q3 := hb3'.cell 3
        have f3 := hb3'.frozen 3
        have hb3 : Blk (w2.setCell ⟨G, 3, none⟩ (.slice A4 i c4)) G 24 #[.int .i64 9, sv s, .int .i64 n, .slice A4 i c4] := hb3'.set_ 3 _
        have hb2 : Blk (w2.setCell ⟨G, 3, none⟩ (.slice A4 i c4)) (w.heap.size + 1) 24 #[.int .i64 0, .string ⟨#[]⟩, .int .i64 0, .slice none 0 0] := hb2.far (by simp; omega) _
        have HEQ := Lib.hid (show isort lto Lp = arrO 9 Lp from rfl)
        have HLF := Lib.hid (show (isort lto Lp).length = i by rw [isort_len, HLen.out])
        have HOF := Lib.hid (hor2.far (g := G) (by omega) 3 (.slice A4 i c4))
        have HBF := Lib.hid (below_set (HBL.out.trans (hbr.mono HBL.out.size)) (g := G) (by omega) 3 (.slice A4 i c4))
        clear c3 m0 m3 hor2 hbr
        have x3 := hb3.x4
        have x2 := hb2.x4
        have z0 := hb2.frozen 0
        have z1 := hb2.frozen 1
        have z2 := hb2.frozen 2
        have z3 := hb2.frozen 3
        go_wp2_with fail
        refine bodyPost_ret (ret_cell1 rfl _ _ (w.heap.size + 1) _ _ _ _ _ rfl (hb2.put4 _ _ _ _)) rfl ?_
        rw [HF.out]
        have hOp := HOF.out.put4 (g := w.heap.size + 1) (by omega) (.int .i64 9) (sv s) (.int .i64 n) (.slice A4 i c4)
        have hrv := OR.rv (k := 9) (n := n) (s := s) (S := New w (put4 (w2.setCell ⟨G, 3, none⟩ (.slice A4 i c4)) (w.heap.size + 1) (.int .i64 9) (sv s) (.int .i64 n) (.slice A4 i c4))) hOp hk1 hn1 hs1 HLF.out.symm (fun b h1 h2 => ⟨by omega, h2⟩)
        rw [← HEQ.out]
        refine ⟨⟨_, _, ?_, hrv⟩, put4_below HBF.out _ (by omega) _ _ _ _⟩
        show Ending.returned (.agg #[.int .i64 9, sv s, .int .i64 n, (.slice A4 i c4)]) = _
        congr 2
        first | rfl | (simp only [Rep.l, HLF.out]; rfl)
      · by_cases hk8 : k = 8
        · subst hk8
          obtain ⟨q, hq⟩ : ∃ q, (prs Lp).length = q := ⟨_, rfl⟩
          have hq2 : q = i / 2 := by rw [← hq, prs_len, HLen.out]
          obtain ⟨M, hM⟩ : ∃ M, 2 * q = M := ⟨_, rfl⟩
          have hMi : M ≤ i := by omega
          have hpe : prs (Lp.take M) = prs Lp := by rw [← hM]; exact prs_end Lp q (by rw [HLen.out]; omega)
          have hHPA := rpairs_any (Lp.take M) wr (OR.take hO HLen.out hMi) (n := M) (by rw [List.length_take, HLen.out]; omega) (by omega) hsz
          have HPA := Lib.hid hHPA
          have HPE := Lib.hid hpe
          have HQ := Lib.hid hq
          have HQ2 := Lib.hid hq2
          have HM := Lib.hid hM
          have HEQ8 := Lib.hid (show (isort ltpo (prs Lp)).flatten ++ lastOf Lp = arrO 8 Lp from rfl)
          have hcap : i ≤ cv ∧ cv ≤ maxLen := by
            obtain ⟨xs9, h9, _⟩ := id hO
            rw [HLen.out] at h9
            exact Own.caps h9
          obtain ⟨xs9, h8, h9⟩ := id hO
          rw [HLen.out] at h8
          have hrd9 := (RD.of_own (S := fun b => G + 1 ≤ b ∧ b < wr.heap.size) h8 (fun kk hkk => h8.lt kk hkk)).cut hMi hcap.1
          have hrl9 := RLs.drop M h9
          rw [show Lp.drop M = lastOf Lp by rw [lastOf_drop, HLen.out, ← hM, hq2]] at hrl9
          have HRD9 := Lib.hid hrd9
          have HRL9 := Lib.hid hrl9
          have c3 := hB3.cell 3
          have HB2o := Lib.hid hB2
          have HB3o := Lib.hid hB3
          have HBL := Lib.hid hbel
          have HSZ := Lib.hid hsz
          clear hB1 hB2 hB3 hO hbel hq hpe hHPA h8 h9 hrd9 hrl9
          have e1 : (i : Int) / 2 = (q : Int) := by omega
          have e2 : (q : Int) * 2 = (M : Int) := by omega
          have g1 : (M : Int) ≤ (i : Int) := by omega
          have g2 : (0 : Int) ≤ (M : Int) := by omega
          have g4 : (M : Int) ≤ (cv : Int) := by omega
          clear hq2 hM
          have hcv0 := hcap.2
          unfold maxLen at hcv0
          by_cases hcv : cv = M
          · have g3 : ¬ M < cv := by omega
            rw [if_pos hcv] at HRD9
            obtain ⟨wq, hwq⟩ : ∃ x : World, x = wr := ⟨_, rfl⟩
            subst hwq
            have hcv2 := hcv.symm
            subst hcv2
            go_wp2_with fail
            refine HPA.out.mono ?_
            rintro e w2 ⟨v2, rfl, hpr, hb2⟩
            have HR1 := Lib.hid (rise_any ((prs (Lp.take M)).map two7) w2 hpr (by rw [List.length_map, HPE.out, HQ.out]) (by have := HQ2.out; omega) (Nat.le_trans HSZ.out hb2.size))
            obtain ⟨A2, c2, rfl⟩ := hpr.form
            rw [show ((prs (Lp.take M)).map two7).length = q by rw [List.length_map, HPE.out, HQ.out]] at HR1 ⊢
            have HB2w := Lib.hid hb2
            clear hpr hb2 HPA c3 m0
            go_wp2_with fail
            refine HR1.out.mono ?_
            rintro e w5 ⟨v5, rfl, hor5, hb5⟩
            rw [isort_twos, HPE.out] at hor5
            have hpl : ((isort ltpo (prs Lp)).map two7).length = q := by rw [List.length_map, isort_len, HQ.out]
            obtain ⟨A5, c5, rfl⟩ := hor5.form
            obtain ⟨xs5, ho5, hr5⟩ := id hor5
            rw [hpl] at ho5 hr5 hor5 ⊢
            have HPL := Lib.hid hpl
            have HO5 := Lib.hid ho5
            have HR5 := Lib.hid hr5
            have HB5w := Lib.hid (below_trans HB2w.out hb5)
            have HBL5 := Lib.hid (HBL.out.trans (HB5w.out.mono HBL.out.size))
            have hx2 := HB2o.out.below HB5w.out HB2o.out.lt
            have hx3 := HB3o.out.below HB5w.out HB3o.out.lt
            have f3 := hx3.frozen 3
            have q3 := hx3.cell 3
            have HX2 := Lib.hid (hx2.far (p := ⟨G, 3, none⟩) (by simp; omega) (.slice none 0 0))
            have HX3 := Lib.hid (hx3.set_ 3 (.slice none 0 0))
            have hsz5 : wq.heap.size ≤ w5.heap.size := HB5w.out.size
            clear hpl ho5 hr5 hor5 hb5 hx2 hx3 HR1
            go_wp2_with fail
            have HBL6 := Lib.hid (below_set HBL5.out (g := G) (by omega) 3 (.slice none 0 0))
            have HSZ6 := Lib.hid (show (w5.setCell ⟨G, 3, none⟩ (.slice none 0 0)).heap.size = w5.heap.size from World.size_setCell _ _ _)
            have HK6 := Lib.hid (fun p : Addr => (fun (h1 : p.block ≠ G) => World.cell?_setCell_far w5 ⟨G, 3, none⟩ p (.slice none 0 0) (fun e => h1 e.symm) : p.block ≠ G → (w5.setCell ⟨G, 3, none⟩ (.slice none 0 0)).cell? p = w5.cell? p))
            have hrd6 : RD (w5.setCell ⟨G, 3, none⟩ (.slice none 0 0)) (fun b => G + 1 ≤ b ∧ b < w5.heap.size) A5 q xs5 := RD.keep (RD.of_own HO5.out (fun kk hkk => HO5.out.lt kk hkk)) (fun p hp => HK6.out p (by have := hp.1; omega))
            have hrl6 : RLs (w5.setCell ⟨G, 3, none⟩ (.slice none 0 0)) (fun b => G + 1 ≤ b ∧ b < w5.heap.size) ((isort ltpo (prs Lp)).map two7) xs5 := RLs.mono (fun b hb => ⟨hb.1, hb.2.1⟩) (RLs.keep (fun p hp => HK6.out p (by have := hp.1; omega)) HR5.out)
            have hrl9 : RLs (w5.setCell ⟨G, 3, none⟩ (.slice none 0 0)) (fun b => G + 1 ≤ b ∧ b < wq.heap.size) (lastOf Lp) (xs9.drop (M * 4)) := RLs.mono (fun b hb => ⟨hb.1, hb.2.1⟩) (RLs.keep (fun p hp => (HK6.out p (by have := hp.1; omega)).trans (HB5w.out.cell hp.2.1)) HRL9.out)
            have hrd9 : RD (w5.setCell ⟨G, 3, none⟩ (.slice none 0 0)) (fun b => G + 1 ≤ b ∧ b < wq.heap.size) Av (i - M) (xs9.drop (M * 4)) := RD.keep HRD9.out (fun p hp => (HK6.out p (by have := hp.1; omega)).trans (HB5w.out.cell hp.2))
            have HRD6 := Lib.hid hrd6
            have HRL6 := Lib.hid hrl6
            have HRLL := Lib.hid hrl9
            have HRDL := Lib.hid hrd9
            clear hrd6 hrl6 hrl9 hrd9 HRD9 HRL9 HO5 HR5 HB2w HK6 q3 f3
            generalize hW6 : (w5.setCell ⟨G, 3, none⟩ (.slice none 0 0)) = W6 at *
            clear hW6
            go_loopw [11] (fun x wl => ∃ kk v, kk ≤ q ∧ x = .int .i64 (kk : Nat) ∧ Blk wl (w.heap.size + 1) 24 #[.int .i64 0, .string ⟨#[]⟩, .int .i64 0, .slice none 0 0] ∧ Blk wl G 24 #[.int .i64 8, sv s, .int .i64 n, v] ∧ OR wl (G + 1) v (((isort ltpo (prs Lp)).take kk).flatten) ∧ (∀ j, v.ownBlock = some j → W6.heap.size ≤ j) ∧ KeepG W6 wl G ∧ Below w.heap.size w wl) (fun x _ => q - (nOf x).toNat)
            case atStart => exact ⟨0, _, Nat.zero_le _, rfl, HX2.out, HX3.out, by rw [List.take_zero]; exact OR.nil _ _, fun j hj => by simp [Value.ownBlock] at hj, KeepG.refl _ _, HBL6.out⟩
            case round =>
              obtain ⟨kk, v, hkq, rfl, hB2, hB3, hO2, hlo, hkp, hbl⟩ := hrel
              obtain ⟨A4, c4, rfl⟩ := hO2.form
              obtain ⟨xs4, ho4, hr4⟩ := id hO2
              obtain ⟨L1, hL1⟩ : ∃ L, (((isort ltpo (prs Lp)).take kk).flatten).length = L := ⟨_, rfl⟩
              have HL1 := Lib.hid hL1
              have hL1q : L1 = 2 * kk := by rw [← hL1, isort_flat_take Lp kk (by rw [HQ.out]; exact hkq)]
              rw [hL1] at ho4 hr4 hlo hO2 hB3
              have HO4 := Lib.hid ho4
              have HR4 := Lib.hid hr4
              have HLO := Lib.hid hlo
              have HOW := Lib.hid hO2
              have HKP := Lib.hid hkp
              have HB2l := Lib.hid hB2
              have HB3l := Lib.hid hB3
              have HBLl := Lib.hid hbl
              have HLQ := Lib.hid hL1q
              have hL1b : L1 ≤ 1000 := by have := HQ2.out; omega
              have hszl : W6.heap.size ≤ wr.heap.size := hkp.1
              clear ho4 hr4 hlo hO2 hkp hB2 hB3 hbl hL1 hL1q
              rcases Nat.lt_or_ge kk q with hlt | hge
              · have hrdl := HRD6.out.keep (w' := wr) (fun p hp => HKP.out.2 p (by rw [HSZ6.out]; exact hp.2) (by have := hp.1; omega))
                have hrll := RLs.keep (w' := wr) (fun p hp => HKP.out.2 p (by rw [HSZ6.out]; exact hp.2) (by have := hp.1; omega)) HRL6.out
                obtain ⟨a1, r1, E1, f1, rfl, hSa1, hr1, hv1, p0, p1, p2, p3⟩ := hrdl.at_ hrll HPL.out hlt
                obtain ⟨p, hp, rfl⟩ := two_of hr1
                have hp2 : p.length = 2 := prs_two p ((isort_perm ltpo (prs Lp)).mem_iff.1 (List.mem_of_getElem? hp))
                have p3' : wr.cell? ⟨(a1.add (kk * 4)).block, (a1.add (kk * 4)).off + 3, none⟩ = some (.slice E1 2 f1) := by rw [p3]; show some (Value.slice E1 p.length f1) = _; rw [hp2]
                obtain ⟨E3, f3, xs3, he3, _, _, _, hpc, hfm, hrd3, hrl3⟩ := hv1.fields
                obtain ⟨rfl, rfl⟩ : E1 = E3 ∧ f1 = f3 := by
                  injection he3 with _ h; injection h with _ h; injection h with _ h; injection h with h _; injection h with h1 _ h2; exact ⟨h1, h2⟩
                rw [show (two7 p).l.length = 2 from hp2] at hrd3 hpc
                rw [show (two7 p).l = p from rfl] at hrl3
                have hS4 : ∀ b, (G + 1 ≤ b ∧ b < w5.heap.size) → (G + 1 ≤ b ∧ b < wr.heap.size ∧ some b ≠ (Value.slice A4 L1 c4).ownBlock) := fun b hb => ⟨hb.1, by have := HSZ6.out; have := hb.2; omega, fun e => by have := HLO.out b e.symm; have := HSZ6.out; have := hb.2; omega⟩
                have HSRC := Lib.hid (Src.slice (P := Tryz.prog) (u := 22) (e' := 24) (c := f1) Tryz.underlying22 (RD.reads (w := wr.drew) (RD.keep (w' := wr.drew) hrd3 (fun p _ => rfl)) (fun b hb => (hS4 b hb).2.1)) hrl3.one1 (by decide))
                have HRL3 := Lib.hid (RLs.mono hS4 hrl3)
                have HST := Lib.hid (flat_next hp)
                have c3 := HB3l.out.cell 3
                have hlt' : (kk : Int) < (q : Int) := by omega
                have hgo : ∀ b, (Value.slice A4 L1 c4).ownBlock = some b → G + 1 ≤ b := fun b hb => (HO4.out.lt b hb).1
                have hsg : G + 1 ≤ wr.heap.size := by have := HSZ6.out; omega
                have HP2 := Lib.hid hp2
                have hw1 : IntKind.i64.wrap ((kk : Int) + 1) = (kk : Int) + 1 := by rw [IntKind.wrap_i64]; omega
                clear p0 p1 p2 p3 hv1 hr1 hp hrdl hrll hSa1 he3 hrd3 hrl3 hS4 hp2 hw1 hpc hfm
                go_wp2_with fail
                go_region_law (first
                  | (refine (step_append_Own _ (by rfl) (.tmp 80) (.tmp 85) _ _ (by rfl) (G + 1) 24 i0 _ 4 56 Tryz.underlying22 hi hz0 hz1 hz2 rfl (.slice A4 L1 c4) L1 xs4 (by rfl) HO4.out.drew _ 2 xs3 (by rfl) HSRC.out (by unfold maxLen; omega) (by omega) hsg ?_); intro v7 w7 hO7 hg7 hat7; obtain ⟨A7, c7, rfl⟩ := hO7.sliceForm; have hB37 := HB3l.out.drew.grown hg7 (fun e => by have := hgo _ e.symm; omega); have j3 := hB37.cell 3; have z3 := hB37.frozen 3))
                all_goals
                  have hO8 : OR w7 (G + 1) (.slice A7 (L1 + 2) c7) (((isort ltpo (prs Lp)).take kk).flatten ++ p) := OR.append (wr := wr.drew) hsg (by rw [HL1.out]; exact HO4.out.drew) (RLs.keep (w := wr) (w' := wr.drew) (S := fun b => G + 1 ≤ b ∧ b < wr.heap.size ∧ some b ≠ (Value.slice A4 L1 c4).ownBlock) (fun p _ => rfl) HR4.out) (RLs.keep (w := wr) (w' := wr.drew) (S := fun b => G + 1 ≤ b ∧ b < wr.heap.size ∧ some b ≠ (Value.slice A4 L1 c4).ownBlock) (fun p _ => rfl) HRL3.out) (by rw [HL1.out, HP2.out]; exact hO7) hg7 hat7
                  rw [← HST.out] at hO8
                  have hO9 := hO8.far (g := G) (by omega) 3 (.slice A7 (L1 + 2) c7)
                  have hb29 : Blk (w7.setCell ⟨G, 3, none⟩ (.slice A7 (L1 + 2) c7)) (w.heap.size + 1) 24 #[.int .i64 0, .string ⟨#[]⟩, .int .i64 0, .slice none 0 0] := (HB2l.out.drew.grown hg7 (fun e => by have := hgo _ e.symm; omega)).far (by simp; omega) _
                  have hb39 : Blk (w7.setCell ⟨G, 3, none⟩ (.slice A7 (L1 + 2) c7)) G 24 #[.int .i64 8, sv s, .int .i64 n, .slice A7 (L1 + 2) c7] := hB37.set_ 3 _
                  have hkp9 : KeepG W6 (w7.setCell ⟨G, 3, none⟩ (.slice A7 (L1 + 2) c7)) G := (HKP.out.drew.grown hg7 (fun j hj => HLO.out j hj)).set_ 3 _
                  have hbl9 : Below w.heap.size w (w7.setCell ⟨G, 3, none⟩ (.slice A7 (L1 + 2) c7)) := below_set (HBLl.out.drew.grown hg7 HBLl.out.size (fun j hj => by have := HLO.out j hj; have := HSZ6.out; have := HBL5.out.size; omega)) (by omega) 3 _
                  have hlo9 : ∀ j, (Value.slice A7 (L1 + 2) c7).ownBlock = some j → W6.heap.size ≤ j := fun j hj => by
                    rcases hat7 with h | h
                    · exact HLO.out j (h.symm.trans hj)
                    · rw [h] at hj; injection hj with hj; have : wr.drew.heap.size = wr.heap.size := rfl; omega
                  have HH := Lib.hid (And.intro hb29 (And.intro hb39 (And.intro hO9 (And.intro hlo9 (And.intro hkp9 hbl9)))))
                  clear hb29 hb39 hO9 hO8 hlo9 hkp9 hbl9
                  go_wp2_with fail
                  go_roundw
                  case rel =>
                    first
                      | exact ⟨kk + 1, _, by omega, by go_num, HH.out.1, HH.out.2.1, HH.out.2.2.1, HH.out.2.2.2.1, HH.out.2.2.2.2.1, HH.out.2.2.2.2.2⟩
                      | ((repeat apply Exists.intro); exact ⟨⟨kk + 1, _, by omega, by go_num, HH.out.1, HH.out.2.1, HH.out.2.2.1, HH.out.2.2.2.1, HH.out.2.2.2.2.1, HH.out.2.2.2.2.2⟩, rfl⟩)
                  case measure => simp [nOf]; omega
              · have hiq : kk = q := by omega
                subst hiq
                have hiN : ¬ (kk : Int) < (kk : Int) := by omega
                have hfull : (isort ltpo (prs Lp)).take kk = isort ltpo (prs Lp) := List.take_of_length_le (by rw [isort_len, HQ.out]; exact Nat.le_refl _)
                have HFU := Lib.hid hfull
                have hML : L1 = M := by have := HLQ.out; have := HM.out; omega
                subst hML
                have hS4 : ∀ b, (G + 1 ≤ b ∧ b < wq.heap.size) → (G + 1 ≤ b ∧ b < wr.heap.size ∧ some b ≠ (Value.slice A4 L1 c4).ownBlock) := fun b hb => ⟨hb.1, by have := HSZ6.out; have := hb.2; omega, fun e => by have := HLO.out b e.symm; have := HSZ6.out; have := hb.2; omega⟩
                have hkw : ∀ p : Addr, (G + 1 ≤ p.block ∧ p.block < wq.heap.size) → wr.cell? p = W6.cell? p := fun p hp => HKP.out.2 p (by have := HSZ6.out; omega) (by omega)
                have hrdw := HRDL.out.keep hkw
                have hrlw := RLs.keep hkw HRLL.out
                have hsrc := Src.slice (P := Tryz.prog) (u := 22) (e' := 24) (c := 0) Tryz.underlying22 (RD.reads hrdw (fun b hb => (hS4 b hb).2.1)) hrlw.one1 (by decide)
                have hi0 : i - L1 = 0 := by have := hcap.1; omega
                rw [hi0] at hsrc
                clear hi0
                have HSRC := Lib.hid hsrc
                have HRLw := Lib.hid (RLs.mono hS4 hrlw)
                have hsg : G + 1 ≤ wr.heap.size := by have := HSZ6.out; omega
                have c3 := HB3l.out.cell 3
                have hgo : ∀ b, (Value.slice A4 L1 c4).ownBlock = some b → G + 1 ≤ b := fun b hb => (HO4.out.lt b hb).1
                clear hfull hS4 hkw hrdw hrlw hsrc
                go_wp2_with (at_builtin
                             refine wpList_append_Own _ rfl (.tmp 89) (.tmp 90) _ _ rfl (G + 1) 24 i0 _ 4 56 Tryz.underlying22 hi hz0 hz1 hz2 rfl (.slice A4 L1 c4) L1 xs4 rfl HO4.out _ 0 (xs9.drop (L1 * 4)) rfl HSRC.out (by unfold maxLen; omega) (by omega) hsg ?_
                             intro v7 w7 hO7 hg7 hat7
                             rw [show L1 + 0 = i by omega] at hO7
                             obtain ⟨A7, c7, rfl⟩ := hO7.sliceForm
                             have hb36 := HB3l.out.grown hg7 (fun e => by have := hgo _ e.symm; omega)
                             have q3 := hb36.cell 3
                             have f3 := hb36.frozen 3
                             have hb3 : Blk (w7.setCell ⟨G, 3, none⟩ (.slice A7 i c7)) G 24 #[.int .i64 8, sv s, .int .i64 n, .slice A7 i c7] := hb36.set_ 3 _
                             have hb2 := (HB2l.out.grown hg7 (fun e => by have := hgo _ e.symm; omega)).far (p := ⟨G, 3, none⟩) (by simp; omega) (.slice A7 i c7)
                             have x3 := hb3.x4
                             have x2 := hb2.x4
                             have z0 := hb2.frozen 0
                             have z1 := hb2.frozen 1
                             have z2 := hb2.frozen 2
                             have z3 := hb2.frozen 3)
                have hll : (lastOf Lp).length = i - L1 := by rw [lastOf_drop, List.length_drop, HLen.out]; have := HM.out; have := HQ2.out; omega
                have h2q : L1 + (i - L1) = i := by omega
                have hor7 : OR w7 (G + 1) (.slice A7 i c7) ((isort ltpo (prs Lp)).flatten ++ lastOf Lp) := by
                  have := OR.append (wr := wr) (p := lastOf Lp) hsg (by rw [HL1.out]; exact HO4.out) HR4.out HRLw.out (by rw [HL1.out, hll, h2q]; exact hO7) hg7 hat7
                  rwa [HFU.out] at this
                have hlen7 : ((isort ltpo (prs Lp)).flatten ++ lastOf Lp).length = i := by
                  have h1 := HL1.out
                  rw [HFU.out] at h1
                  rw [List.length_append, h1, hll]; omega
                have HLF := Lib.hid hlen7
                have HOF := Lib.hid (hor7.far (g := G) (by omega) 3 (.slice A7 i c7))
                have HBF := Lib.hid (below_set (HBLl.out.grown hg7 HBLl.out.size (fun j hj => by have := HLO.out j hj; have := HSZ6.out; have := HBL5.out.size; omega)) (g := G) (by omega) 3 (.slice A7 i c7))
                have HEQ := HEQ8
                refine bodyPost_ret (ret_cell1 rfl _ _ (w.heap.size + 1) _ _ _ _ _ rfl (hb2.put4 _ _ _ _)) rfl ?_
                rw [HF.out]
                have hOp := HOF.out.put4 (g := w.heap.size + 1) (by omega) (.int .i64 8) (sv s) (.int .i64 n) (.slice A7 i c7)
                have hrv := OR.rv (k := 8) (n := n) (s := s) (S := New w (put4 (w7.setCell ⟨G, 3, none⟩ (.slice A7 i c7)) (w.heap.size + 1) (.int .i64 8) (sv s) (.int .i64 n) (.slice A7 i c7))) hOp hk1 hn1 hs1 HLF.out.symm (fun b h1 h2 => ⟨by omega, h2⟩)
                rw [← HEQ.out]
                refine ⟨⟨_, _, ?_, hrv⟩, put4_below HBF.out _ (by omega) _ _ _ _⟩
                show Ending.returned (.agg #[.int .i64 8, sv s, .int .i64 n, (.slice A7 i c7)]) = _
                congr 2
                first | rfl | (simp only [Rep.l, HLF.out]; rfl)
          · have g3 : M < cv := by omega
            rw [if_neg hcv] at HRD9
            obtain ⟨wq, hwq⟩ : ∃ x : World, x = wr := ⟨_, rfl⟩
            subst hwq
            go_wp2_with fail
            refine HPA.out.mono ?_
            rintro e w2 ⟨v2, rfl, hpr, hb2⟩
            have HR1 := Lib.hid (rise_any ((prs (Lp.take M)).map two7) w2 hpr (by rw [List.length_map, HPE.out, HQ.out]) (by have := HQ2.out; omega) (Nat.le_trans HSZ.out hb2.size))
            obtain ⟨A2, c2, rfl⟩ := hpr.form
            rw [show ((prs (Lp.take M)).map two7).length = q by rw [List.length_map, HPE.out, HQ.out]] at HR1 ⊢
            have HB2w := Lib.hid hb2
            clear hpr hb2 HPA c3 m0
            go_wp2_with fail
            refine HR1.out.mono ?_
            rintro e w5 ⟨v5, rfl, hor5, hb5⟩
            rw [isort_twos, HPE.out] at hor5
            have hpl : ((isort ltpo (prs Lp)).map two7).length = q := by rw [List.length_map, isort_len, HQ.out]
            obtain ⟨A5, c5, rfl⟩ := hor5.form
            obtain ⟨xs5, ho5, hr5⟩ := id hor5
            rw [hpl] at ho5 hr5 hor5 ⊢
            have HPL := Lib.hid hpl
            have HO5 := Lib.hid ho5
            have HR5 := Lib.hid hr5
            have HB5w := Lib.hid (below_trans HB2w.out hb5)
            have HBL5 := Lib.hid (HBL.out.trans (HB5w.out.mono HBL.out.size))
            have hx2 := HB2o.out.below HB5w.out HB2o.out.lt
            have hx3 := HB3o.out.below HB5w.out HB3o.out.lt
            have f3 := hx3.frozen 3
            have q3 := hx3.cell 3
            have HX2 := Lib.hid (hx2.far (p := ⟨G, 3, none⟩) (by simp; omega) (.slice none 0 0))
            have HX3 := Lib.hid (hx3.set_ 3 (.slice none 0 0))
            have hsz5 : wq.heap.size ≤ w5.heap.size := HB5w.out.size
            clear hpl ho5 hr5 hor5 hb5 hx2 hx3 HR1
            go_wp2_with fail
            have HBL6 := Lib.hid (below_set HBL5.out (g := G) (by omega) 3 (.slice none 0 0))
            have HSZ6 := Lib.hid (show (w5.setCell ⟨G, 3, none⟩ (.slice none 0 0)).heap.size = w5.heap.size from World.size_setCell _ _ _)
            have HK6 := Lib.hid (fun p : Addr => (fun (h1 : p.block ≠ G) => World.cell?_setCell_far w5 ⟨G, 3, none⟩ p (.slice none 0 0) (fun e => h1 e.symm) : p.block ≠ G → (w5.setCell ⟨G, 3, none⟩ (.slice none 0 0)).cell? p = w5.cell? p))
            have hrd6 : RD (w5.setCell ⟨G, 3, none⟩ (.slice none 0 0)) (fun b => G + 1 ≤ b ∧ b < w5.heap.size) A5 q xs5 := RD.keep (RD.of_own HO5.out (fun kk hkk => HO5.out.lt kk hkk)) (fun p hp => HK6.out p (by have := hp.1; omega))
            have hrl6 : RLs (w5.setCell ⟨G, 3, none⟩ (.slice none 0 0)) (fun b => G + 1 ≤ b ∧ b < w5.heap.size) ((isort ltpo (prs Lp)).map two7) xs5 := RLs.mono (fun b hb => ⟨hb.1, hb.2.1⟩) (RLs.keep (fun p hp => HK6.out p (by have := hp.1; omega)) HR5.out)
            have hrl9 : RLs (w5.setCell ⟨G, 3, none⟩ (.slice none 0 0)) (fun b => G + 1 ≤ b ∧ b < wq.heap.size) (lastOf Lp) (xs9.drop (M * 4)) := RLs.mono (fun b hb => ⟨hb.1, hb.2.1⟩) (RLs.keep (fun p hp => (HK6.out p (by have := hp.1; omega)).trans (HB5w.out.cell hp.2.1)) HRL9.out)
            have hrd9 : RD (w5.setCell ⟨G, 3, none⟩ (.slice none 0 0)) (fun b => G + 1 ≤ b ∧ b < wq.heap.size) (Av.map (·.add (M * 4))) (i - M) (xs9.drop (M * 4)) := RD.keep HRD9.out (fun p hp => (HK6.out p (by have := hp.1; omega)).trans (HB5w.out.cell hp.2))
            have HRD6 := Lib.hid hrd6
            have HRL6 := Lib.hid hrl6
            have HRLL := Lib.hid hrl9
            have HRDL := Lib.hid hrd9
            clear hrd6 hrl6 hrl9 hrd9 HRD9 HRL9 HO5 HR5 HB2w HK6 q3 f3
            generalize hW6 : (w5.setCell ⟨G, 3, none⟩ (.slice none 0 0)) = W6 at *
            clear hW6
            go_loopw [11] (fun x wl => ∃ kk v, kk ≤ q ∧ x = .int .i64 (kk : Nat) ∧ Blk wl (w.heap.size + 1) 24 #[.int .i64 0, .string ⟨#[]⟩, .int .i64 0, .slice none 0 0] ∧ Blk wl G 24 #[.int .i64 8, sv s, .int .i64 n, v] ∧ OR wl (G + 1) v (((isort ltpo (prs Lp)).take kk).flatten) ∧ (∀ j, v.ownBlock = some j → W6.heap.size ≤ j) ∧ KeepG W6 wl G ∧ Below w.heap.size w wl) (fun x _ => q - (nOf x).toNat)
            case atStart => exact ⟨0, _, Nat.zero_le _, rfl, HX2.out, HX3.out, by rw [List.take_zero]; exact OR.nil _ _, fun j hj => by simp [Value.ownBlock] at hj, KeepG.refl _ _, HBL6.out⟩
            case round =>
              obtain ⟨kk, v, hkq, rfl, hB2, hB3, hO2, hlo, hkp, hbl⟩ := hrel
              obtain ⟨A4, c4, rfl⟩ := hO2.form
              obtain ⟨xs4, ho4, hr4⟩ := id hO2
              obtain ⟨L1, hL1⟩ : ∃ L, (((isort ltpo (prs Lp)).take kk).flatten).length = L := ⟨_, rfl⟩
              have HL1 := Lib.hid hL1
              have hL1q : L1 = 2 * kk := by rw [← hL1, isort_flat_take Lp kk (by rw [HQ.out]; exact hkq)]
              rw [hL1] at ho4 hr4 hlo hO2 hB3
              have HO4 := Lib.hid ho4
              have HR4 := Lib.hid hr4
              have HLO := Lib.hid hlo
              have HOW := Lib.hid hO2
              have HKP := Lib.hid hkp
              have HB2l := Lib.hid hB2
              have HB3l := Lib.hid hB3
              have HBLl := Lib.hid hbl
              have HLQ := Lib.hid hL1q
              have hL1b : L1 ≤ 1000 := by have := HQ2.out; omega
              have hszl : W6.heap.size ≤ wr.heap.size := hkp.1
              clear ho4 hr4 hlo hO2 hkp hB2 hB3 hbl hL1 hL1q
              rcases Nat.lt_or_ge kk q with hlt | hge
              · have hrdl := HRD6.out.keep (w' := wr) (fun p hp => HKP.out.2 p (by rw [HSZ6.out]; exact hp.2) (by have := hp.1; omega))
                have hrll := RLs.keep (w' := wr) (fun p hp => HKP.out.2 p (by rw [HSZ6.out]; exact hp.2) (by have := hp.1; omega)) HRL6.out
                obtain ⟨a1, r1, E1, f1, rfl, hSa1, hr1, hv1, p0, p1, p2, p3⟩ := hrdl.at_ hrll HPL.out hlt
                obtain ⟨p, hp, rfl⟩ := two_of hr1
                have hp2 : p.length = 2 := prs_two p ((isort_perm ltpo (prs Lp)).mem_iff.1 (List.mem_of_getElem? hp))
                have p3' : wr.cell? ⟨(a1.add (kk * 4)).block, (a1.add (kk * 4)).off + 3, none⟩ = some (.slice E1 2 f1) := by rw [p3]; show some (Value.slice E1 p.length f1) = _; rw [hp2]
                obtain ⟨E3, f3, xs3, he3, _, _, _, hpc, hfm, hrd3, hrl3⟩ := hv1.fields
                obtain ⟨rfl, rfl⟩ : E1 = E3 ∧ f1 = f3 := by
                  injection he3 with _ h; injection h with _ h; injection h with _ h; injection h with h _; injection h with h1 _ h2; exact ⟨h1, h2⟩
                rw [show (two7 p).l.length = 2 from hp2] at hrd3 hpc
                rw [show (two7 p).l = p from rfl] at hrl3
                have hS4 : ∀ b, (G + 1 ≤ b ∧ b < w5.heap.size) → (G + 1 ≤ b ∧ b < wr.heap.size ∧ some b ≠ (Value.slice A4 L1 c4).ownBlock) := fun b hb => ⟨hb.1, by have := HSZ6.out; have := hb.2; omega, fun e => by have := HLO.out b e.symm; have := HSZ6.out; have := hb.2; omega⟩
                have HSRC := Lib.hid (Src.slice (P := Tryz.prog) (u := 22) (e' := 24) (c := f1) Tryz.underlying22 (RD.reads (w := wr.drew) (RD.keep (w' := wr.drew) hrd3 (fun p _ => rfl)) (fun b hb => (hS4 b hb).2.1)) hrl3.one1 (by decide))
                have HRL3 := Lib.hid (RLs.mono hS4 hrl3)
                have HST := Lib.hid (flat_next hp)
                have c3 := HB3l.out.cell 3
                have hlt' : (kk : Int) < (q : Int) := by omega
                have hgo : ∀ b, (Value.slice A4 L1 c4).ownBlock = some b → G + 1 ≤ b := fun b hb => (HO4.out.lt b hb).1
                have hsg : G + 1 ≤ wr.heap.size := by have := HSZ6.out; omega
                have HP2 := Lib.hid hp2
                have hw1 : IntKind.i64.wrap ((kk : Int) + 1) = (kk : Int) + 1 := by rw [IntKind.wrap_i64]; omega
                clear p0 p1 p2 p3 hv1 hr1 hp hrdl hrll hSa1 he3 hrd3 hrl3 hS4 hp2 hw1 hpc hfm
                go_wp2_with fail
                go_region_law (first
                  | (refine (step_append_Own _ (by rfl) (.tmp 80) (.tmp 85) _ _ (by rfl) (G + 1) 24 i0 _ 4 56 Tryz.underlying22 hi hz0 hz1 hz2 rfl (.slice A4 L1 c4) L1 xs4 (by rfl) HO4.out.drew _ 2 xs3 (by rfl) HSRC.out (by unfold maxLen; omega) (by omega) hsg ?_); intro v7 w7 hO7 hg7 hat7; obtain ⟨A7, c7, rfl⟩ := hO7.sliceForm; have hB37 := HB3l.out.drew.grown hg7 (fun e => by have := hgo _ e.symm; omega); have j3 := hB37.cell 3; have z3 := hB37.frozen 3))
                all_goals
                  have hO8 : OR w7 (G + 1) (.slice A7 (L1 + 2) c7) (((isort ltpo (prs Lp)).take kk).flatten ++ p) := OR.append (wr := wr.drew) hsg (by rw [HL1.out]; exact HO4.out.drew) (RLs.keep (w := wr) (w' := wr.drew) (S := fun b => G + 1 ≤ b ∧ b < wr.heap.size ∧ some b ≠ (Value.slice A4 L1 c4).ownBlock) (fun p _ => rfl) HR4.out) (RLs.keep (w := wr) (w' := wr.drew) (S := fun b => G + 1 ≤ b ∧ b < wr.heap.size ∧ some b ≠ (Value.slice A4 L1 c4).ownBlock) (fun p _ => rfl) HRL3.out) (by rw [HL1.out, HP2.out]; exact hO7) hg7 hat7
                  rw [← HST.out] at hO8
                  have hO9 := hO8.far (g := G) (by omega) 3 (.slice A7 (L1 + 2) c7)
                  have hb29 : Blk (w7.setCell ⟨G, 3, none⟩ (.slice A7 (L1 + 2) c7)) (w.heap.size + 1) 24 #[.int .i64 0, .string ⟨#[]⟩, .int .i64 0, .slice none 0 0] := (HB2l.out.drew.grown hg7 (fun e => by have := hgo _ e.symm; omega)).far (by simp; omega) _
                  have hb39 : Blk (w7.setCell ⟨G, 3, none⟩ (.slice A7 (L1 + 2) c7)) G 24 #[.int .i64 8, sv s, .int .i64 n, .slice A7 (L1 + 2) c7] := hB37.set_ 3 _
                  have hkp9 : KeepG W6 (w7.setCell ⟨G, 3, none⟩ (.slice A7 (L1 + 2) c7)) G := (HKP.out.drew.grown hg7 (fun j hj => HLO.out j hj)).set_ 3 _
                  have hbl9 : Below w.heap.size w (w7.setCell ⟨G, 3, none⟩ (.slice A7 (L1 + 2) c7)) := below_set (HBLl.out.drew.grown hg7 HBLl.out.size (fun j hj => by have := HLO.out j hj; have := HSZ6.out; have := HBL5.out.size; omega)) (by omega) 3 _
                  have hlo9 : ∀ j, (Value.slice A7 (L1 + 2) c7).ownBlock = some j → W6.heap.size ≤ j := fun j hj => by
                    rcases hat7 with h | h
                    · exact HLO.out j (h.symm.trans hj)
                    · rw [h] at hj; injection hj with hj; have : wr.drew.heap.size = wr.heap.size := rfl; omega
                  have HH := Lib.hid (And.intro hb29 (And.intro hb39 (And.intro hO9 (And.intro hlo9 (And.intro hkp9 hbl9)))))
                  clear hb29 hb39 hO9 hO8 hlo9 hkp9 hbl9
                  go_wp2_with fail
                  go_roundw
                  case rel =>
                    first
                      | exact ⟨kk + 1, _, by omega, by go_num, HH.out.1, HH.out.2.1, HH.out.2.2.1, HH.out.2.2.2.1, HH.out.2.2.2.2.1, HH.out.2.2.2.2.2⟩
                      | ((repeat apply Exists.intro); exact ⟨⟨kk + 1, _, by omega, by go_num, HH.out.1, HH.out.2.1, HH.out.2.2.1, HH.out.2.2.2.1, HH.out.2.2.2.2.1, HH.out.2.2.2.2.2⟩, rfl⟩)
                  case measure => simp [nOf]; omega
              · have hiq : kk = q := by omega
                subst hiq
                have hiN : ¬ (kk : Int) < (kk : Int) := by omega
                have hfull : (isort ltpo (prs Lp)).take kk = isort ltpo (prs Lp) := List.take_of_length_le (by rw [isort_len, HQ.out]; exact Nat.le_refl _)
                have HFU := Lib.hid hfull
                have hML : L1 = M := by have := HLQ.out; have := HM.out; omega
                subst hML
                have hS4 : ∀ b, (G + 1 ≤ b ∧ b < wq.heap.size) → (G + 1 ≤ b ∧ b < wr.heap.size ∧ some b ≠ (Value.slice A4 L1 c4).ownBlock) := fun b hb => ⟨hb.1, by have := HSZ6.out; have := hb.2; omega, fun e => by have := HLO.out b e.symm; have := HSZ6.out; have := hb.2; omega⟩
                have hkw : ∀ p : Addr, (G + 1 ≤ p.block ∧ p.block < wq.heap.size) → wr.cell? p = W6.cell? p := fun p hp => HKP.out.2 p (by have := HSZ6.out; omega) (by omega)
                have hrdw := HRDL.out.keep hkw
                have hrlw := RLs.keep hkw HRLL.out
                have hsrc := Src.slice (P := Tryz.prog) (u := 22) (e' := 24) (c := cv - L1) Tryz.underlying22 (RD.reads hrdw (fun b hb => (hS4 b hb).2.1)) hrlw.one1 (by decide)
                have HSRC := Lib.hid hsrc
                have HRLw := Lib.hid (RLs.mono hS4 hrlw)
                have hsg : G + 1 ≤ wr.heap.size := by have := HSZ6.out; omega
                have c3 := HB3l.out.cell 3
                have hgo : ∀ b, (Value.slice A4 L1 c4).ownBlock = some b → G + 1 ≤ b := fun b hb => (HO4.out.lt b hb).1
                clear hfull hS4 hkw hrdw hrlw hsrc
                go_wp2_with (at_builtin
                             refine wpList_append_Own _ rfl (.tmp 89) (.tmp 90) _ _ rfl (G + 1) 24 i0 _ 4 56 Tryz.underlying22 hi hz0 hz1 hz2 rfl (.slice A4 L1 c4) L1 xs4 rfl HO4.out _ (i - L1) (xs9.drop (L1 * 4)) rfl HSRC.out (by unfold maxLen; omega) (by omega) hsg ?_
                             intro v7 w7 hO7 hg7 hat7
                             rw [show L1 + (i - L1) = i by omega] at hO7
                             obtain ⟨A7, c7, rfl⟩ := hO7.sliceForm
                             have hb36 := HB3l.out.grown hg7 (fun e => by have := hgo _ e.symm; omega)
                             have q3 := hb36.cell 3
                             have f3 := hb36.frozen 3
                             have hb3 : Blk (w7.setCell ⟨G, 3, none⟩ (.slice A7 i c7)) G 24 #[.int .i64 8, sv s, .int .i64 n, .slice A7 i c7] := hb36.set_ 3 _
                             have hb2 := (HB2l.out.grown hg7 (fun e => by have := hgo _ e.symm; omega)).far (p := ⟨G, 3, none⟩) (by simp; omega) (.slice A7 i c7)
                             have x3 := hb3.x4
                             have x2 := hb2.x4
                             have z0 := hb2.frozen 0
                             have z1 := hb2.frozen 1
                             have z2 := hb2.frozen 2
                             have z3 := hb2.frozen 3)
                have hll : (lastOf Lp).length = i - L1 := by rw [lastOf_drop, List.length_drop, HLen.out]; have := HM.out; have := HQ2.out; omega
                have h2q : L1 + (i - L1) = i := by omega
                have hor7 : OR w7 (G + 1) (.slice A7 i c7) ((isort ltpo (prs Lp)).flatten ++ lastOf Lp) := by
                  have := OR.append (wr := wr) (p := lastOf Lp) hsg (by rw [HL1.out]; exact HO4.out) HR4.out HRLw.out (by rw [HL1.out, hll, h2q]; exact hO7) hg7 hat7
                  rwa [HFU.out] at this
                have hlen7 : ((isort ltpo (prs Lp)).flatten ++ lastOf Lp).length = i := by
                  have h1 := HL1.out
                  rw [HFU.out] at h1
                  rw [List.length_append, h1, hll]; omega
                have HLF := Lib.hid hlen7
                have HOF := Lib.hid (hor7.far (g := G) (by omega) 3 (.slice A7 i c7))
                have HBF := Lib.hid (below_set (HBLl.out.grown hg7 HBLl.out.size (fun j hj => by have := HLO.out j hj; have := HSZ6.out; have := HBL5.out.size; omega)) (g := G) (by omega) 3 (.slice A7 i c7))
                have HEQ := HEQ8
                refine bodyPost_ret (ret_cell1 rfl _ _ (w.heap.size + 1) _ _ _ _ _ rfl (hb2.put4 _ _ _ _)) rfl ?_
                rw [HF.out]
                have hOp := HOF.out.put4 (g := w.heap.size + 1) (by omega) (.int .i64 8) (sv s) (.int .i64 n) (.slice A7 i c7)
                have hrv := OR.rv (k := 8) (n := n) (s := s) (S := New w (put4 (w7.setCell ⟨G, 3, none⟩ (.slice A7 i c7)) (w.heap.size + 1) (.int .i64 8) (sv s) (.int .i64 n) (.slice A7 i c7))) hOp hk1 hn1 hs1 HLF.out.symm (fun b h1 h2 => ⟨by omega, h2⟩)
                rw [← HEQ.out]
                refine ⟨⟨_, _, ?_, hrv⟩, put4_below HBF.out _ (by omega) _ _ _ _⟩
                show Ending.returned (.agg #[.int .i64 8, sv s, .int .i64 n, (.slice A7 i c7)]) = _
                congr 2
                first | rfl | (simp only [Rep.l, HLF.out]; rfl)
        · have b9 : (k == 9) = false := by simpa using hk9
          have b8 : (k == 8) = false := by simpa using hk8
          have HEQ := Lib.hid (show Lp = arrO k Lp by unfold arrO; rw [if_neg hk9, if_neg hk8])
          have HLF := HLen
          have HOF := Lib.hid hO
          have HBF := Lib.hid hbel
          have hb2 := hB2
          have hb3 := hB3
          clear hB1 hB2 hB3 hO hbel hk9 hk8
          have x2 := hb2.x4
          have z0 := hb2.frozen 0
          have z1 := hb2.frozen 1
          have z2 := hb2.frozen 2
          have z3 := hb2.frozen 3
          have x3 := hb3.x4
          go_wp2_with fail
          refine bodyPost_ret (ret_cell1 rfl _ _ (w.heap.size + 1) _ _ _ _ _ rfl (hb2.put4 _ _ _ _)) rfl ?_
          rw [HF.out]
          have hOp := HOF.out.put4 (g := w.heap.size + 1) (by omega) (.int .i64 k) (sv s) (.int .i64 n) (.slice Av i cv)
          have hrv := OR.rv (k := k) (n := n) (s := s) (S := New w (put4 wr (w.heap.size + 1) (.int .i64 k) (sv s) (.int .i64 n) (.slice Av i cv))) hOp hk1 hn1 hs1 HLF.out.symm (fun b h1 h2 => ⟨by omega, h2⟩)
          rw [← HEQ.out]
          refine ⟨⟨_, _, ?_, hrv⟩, put4_below HBF.out _ (by omega) _ _ _ _⟩
          show Ending.returned (.agg #[.int .i64 k, sv s, .int .i64 n, (.slice Av i cv)]) = _
          congr 2
          first | rfl | (simp only [Rep.l, HLF.out]; rfl)
theorem rsorted_all : ∀ (N : Nat) (r : Rep), SizeOf.sizeOf r ≤ N → RsrtAt r := by
  intro N
  induction N with
  | zero => intro r h; cases r; simp at h
  | succ N ih =>
    intro r h
    obtain ⟨k, s, n, l⟩ := r
    rcases hp : prt k with _ | _
    · intro w cs hok hr
      obtain ⟨A, c, xs, rfl, hk1, hn1, hs1, hlc1, hcm1, hd1, hl1⟩ := hr.fields
      simp only [Rep.k, Rep.s, Rep.n, Rep.l] at *
      have hl : l = [] := by
        unfold okP at hok
        rcases hok.2.1 with h | h
        · exact h
        · rw [hp] at h; cases h
      subst hl
      refine (rsorted_none k s n A c 0 w hp).mono ?_
      rintro e w' ⟨rfl, hb⟩
      rw [rsrt_none hp]
      exact ⟨⟨A, c, rfl, RV.mk_ hk1 hn1 hs1 hlc1 hcm1 (RD.nil _ _ _) RLs.nil⟩, hb⟩
    · exact rsorted_prt k s n l (fun q hq => ih q (by have := sizeOf_mem (k := k) (n := n) (s := s) hq; omega)) hp
theorem rsorted_any {r : Rep} {w : World} {cs : List Value} (hok : okP r) (h : Liv w r cs) :
    Calls Tryz.prog 20 #[.agg cs.toArray] w fun e w' => FRet w w' e (rsrt r) ∧ Below w.heap.size w w' := rsorted_all _ r (Nat.le_refl _) w cs hok h
end Go.Proofs.YtnmchplabaoflaaGreatDoor
