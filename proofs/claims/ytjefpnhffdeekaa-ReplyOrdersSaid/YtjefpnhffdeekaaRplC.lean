/- The walk of reply's compare, Same. -/
import Derived.Test.YtjefpnhffdeekaaRplB
import Derived.Deep.RegionHeld3
namespace Go.Proofs.Ytjefpnhffdeekaa
open Go.RowKit
set_option linter.unusedVariables false

theorem ord_mk (k : Int) (s : List UInt8) (n : Int) (l : List Rep) (k' : Int) (s' : List UInt8) (n' : Int) (l' : List Rep) :
    ord (.mk k s n l) (.mk k' s' n' l') = orL [cmpI k k', cmpI (if k = 3 then n else 0) (if k' = 3 then n' else 0), cmpS (if txt k then s else []) (if txt k' then s' else []), ords ((if prt k then l else []).map Rep.norm) ((if prt k' then l' else []).map Rep.norm)] := by
  unfold ord
  rw [norm_mk, norm_mk, ordn]
  simp only [orL, or2_zero']
  have e : ∀ (b : Bool) (l : List Rep), (if b = true then l.map Rep.norm else []) = (if b = true then l else []).map Rep.norm := by intro b l; cases b <;> rfl
  rw [e, e]

set_option maxRecDepth 100000 in
set_option maxHeartbeats 8000000 in
theorem cmp_any : ∀ (N : Nat) (a : Rep), SizeOf.sizeOf a ≤ N → CmpAt 14 a := by
  intro N
  induction N with
  | zero => intro a h; cases a; simp at h
  | succ N ih =>
    intro a hN b w cs cs' ha hb
    obtain ⟨k, s, n, l⟩ := a
    obtain ⟨k', s', n', l'⟩ := b
    obtain ⟨L, rfl, hL, hk1, hn1, hs1⟩ := ha.parts
    obtain ⟨L', rfl, hL', hk2, hn2, hs2⟩ := hb.parts
    have hih : ∀ r ∈ (if prt k then l else []), CmpAt 14 r := by
      intro r hr
      split at hr
      · exact ih r (by have := sizeOf_mem (k := k) (n := n) (s := s) hr; omega)
      · cases hr
    have HO := Lib.hid (ord_mk k s n l k' s' n' l')
    obtain ⟨A, c, xs, rfl, _, _, _, _⟩ := id hL
    obtain ⟨A', c', xs', rfl, _, _, _, _⟩ := id hL'
    have HB1 := Lib.hid (fun w1 => bare_any k s n A l.length c w1)
    have HB2 := Lib.hid (fun w1 => bare_any k' s' n' A' l'.length c' w1)
    have hP1 : LivL w (if prt k then .slice A l.length c else .slice none 0 0) (if prt k then l else []) := by
      split
      · exact hL
      · exact LivL.nil w
    have hP2 : LivL w (if prt k' then .slice A' l'.length c' else .slice none 0 0) (if prt k' then l' else []) := by
      split
      · exact hL'
      · exact LivL.nil w
    unfold bareRet at HB1 HB2
    obtain ⟨S1, h1⟩ : ∃ S, (if txt k then s else []) = S := ⟨_, rfl⟩
    obtain ⟨S2, h2⟩ : ∃ S, (if txt k' then s' else []) = S := ⟨_, rfl⟩
    obtain ⟨N1, h3⟩ : ∃ S, (if k = 3 then n else 0) = S := ⟨_, rfl⟩
    obtain ⟨N2, h4⟩ : ∃ S, (if k' = 3 then n' else 0) = S := ⟨_, rfl⟩
    obtain ⟨l1, h5⟩ : ∃ S, (if prt k then l else []) = S := ⟨_, rfl⟩
    obtain ⟨l2, h6⟩ : ∃ S, (if prt k' then l' else []) = S := ⟨_, rfl⟩
    obtain ⟨v1, h7⟩ : ∃ S, (if prt k then Value.slice A l.length c else .slice none 0 0) = S := ⟨_, rfl⟩
    obtain ⟨v2, h8⟩ : ∃ S, (if prt k' then Value.slice A' l'.length c' else .slice none 0 0) = S := ⟨_, rfl⟩
    rw [h1, h3, h7] at HB1
    rw [h2, h4, h8] at HB2
    rw [h5] at hih hP1
    rw [h6] at hP2
    rw [h7] at hP1
    rw [h8] at hP2
    rw [h1, h2, h3, h4, h5, h6] at HO
    have HCF := Lib.hid (fun w' (hb : Below w.heap.size w w') => cmpf_any l1 l2 v1 v2 w' (hP1.below hb) (hP2.below hb) hih)
    obtain ⟨O4, ho⟩ : ∃ O, ords (l1.map Rep.norm) (l2.map Rep.norm) = O := ⟨_, rfl⟩
    rw [ho] at HCF HO
    obtain ⟨nl, hnl⟩ : ∃ n, l.length = n := ⟨_, rfl⟩
    obtain ⟨nl', hnl'⟩ : ∃ n, l'.length = n := ⟨_, rfl⟩
    rw [hnl] at HB1 ⊢
    rw [hnl'] at HB2 ⊢
    clear ha hb hL hL' hih hP1 hP2 h1 h2 h3 h4 h5 h6 h7 h8 ho hnl hnl' hk1 hk2 hn1 hn2 hs1 hs2
    go_enter Try.func14, Try.ntmps14
    go_wp2_with fail
    have hb0 : Below w.heap.size w ((w.alloc (.cells #[.int .i64 k, sv s, .int .i64 n, .slice A nl c] 25)).alloc (.cells #[.int .i64 k', sv s', .int .i64 n', .slice A' nl' c'] 25)) := ((Below.refl _ _).alloc (Nat.le_refl _) _).alloc (by simp) _
    have hY := (Blk.new (w.alloc (.cells #[.int .i64 k, sv s, .int .i64 n, .slice A nl c] 25)) 25 #[.int .i64 k', sv s', .int .i64 n', .slice A' nl' c'])
    have hY' : Blk ((w.alloc (.cells #[.int .i64 k, sv s, .int .i64 n, .slice A nl c] 25)).alloc (.cells #[.int .i64 k', sv s', .int .i64 n', .slice A' nl' c'] 25)) (w.heap.size + 1) 25 #[.int .i64 k', sv s', .int .i64 n', .slice A' nl' c'] := by simpa using hY
    have HY := Lib.hid hY'
    have HB0 := Lib.hid hb0
    clear hb0 hY hY'
    refine (HB1.out _).mono ?_
    rintro e w1 ⟨rfl, hb1⟩
    have HY1 := Lib.hid (HY.out.below hb1 HY.out.lt)
    have HBw1 := Lib.hid (HB0.out.trans (hb1.mono HB0.out.size))
    clear hb1
    have y0 := (HY1.out.alloc (.cells #[.int .i64 k, sv S1, .int .i64 N1, .slice none 0 0] 25)).cell 0
    have y1 := (HY1.out.alloc (.cells #[.int .i64 k, sv S1, .int .i64 N1, .slice none 0 0] 25)).cell 1
    have y2 := (HY1.out.alloc (.cells #[.int .i64 k, sv S1, .int .i64 N1, .slice none 0 0] 25)).cell 2
    have y3 := (HY1.out.alloc (.cells #[.int .i64 k, sv S1, .int .i64 N1, .slice none 0 0] 25)).cell 3
    go_wp2_with fail
    clear y0 y1 y2 y3
    have HX := Lib.hid (Blk.new w1 25 #[.int .i64 k, sv S1, .int .i64 N1, .slice none 0 0])
    have HBx := Lib.hid (HBw1.out.alloc HBw1.out.size (.cells #[.int .i64 k, sv S1, .int .i64 N1, .slice none 0 0] 25))
    refine (HB2.out _).mono ?_
    rintro e w2 ⟨rfl, hb2⟩
    have HX1 := Lib.hid (HX.out.below hb2 HX.out.lt)
    have HBw2 := Lib.hid (HBx.out.trans (hb2.mono HBx.out.size))
    clear hb2
    go_wp2_with fail
    have hbw := HBw2.out.alloc HBw2.out.size (.cells #[.int .i64 k', sv S2, .int .i64 N2, .slice none 0 0] 25)
    have hxw := HX1.out.alloc (.cells #[.int .i64 k', sv S2, .int .i64 N2, .slice none 0 0] 25)
    have hyw := Blk.new w2 25 #[.int .i64 k', sv S2, .int .i64 N2, .slice none 0 0]
    obtain ⟨W, hW⟩ : ∃ W, w2.alloc (.cells #[.int .i64 k', sv S2, .int .i64 N2, .slice none 0 0] 25) = W := ⟨_, rfl⟩
    rw [hW] at hbw hxw hyw
    try unfold sv at hW
    rw [hW]
    obtain ⟨g5, hg5⟩ : ∃ g, w1.heap.size = g := ⟨_, rfl⟩
    obtain ⟨g7, hg7⟩ : ∃ g, w2.heap.size = g := ⟨_, rfl⟩
    rw [hg5] at hxw ⊢
    rw [hg7] at hyw ⊢
    have HBW := Lib.hid hbw
    have HK := Lib.hid (fun w' (hb : Below W.heap.size W w') => (show Below W.heap.size W w' ∧ w'.cell? ⟨g5, 0, none⟩ = some (.int .i64 k) ∧ w'.cell? ⟨g5, 1, none⟩ = some (.string (bs S1)) ∧ w'.cell? ⟨g5, 2, none⟩ = some (.int .i64 N1) ∧ w'.cell? ⟨g7, 0, none⟩ = some (.int .i64 k') ∧ w'.cell? ⟨g7, 1, none⟩ = some (.string (bs S2)) ∧ w'.cell? ⟨g7, 2, none⟩ = some (.int .i64 N2) from
      ⟨hb, (hxw.below hb hxw.lt).cell 0, (hxw.below hb hxw.lt).cell 1, (hxw.below hb hxw.lt).cell 2, (hyw.below hb hyw.lt).cell 0, (hyw.below hb hyw.lt).cell 1, (hyw.below hb hyw.lt).cell 2⟩))
    have hS0 : Below W.heap.size W W := Below.refl _ _
    clear hbw hxw hyw hW hg5 hg7 HX HX1 HY HY1 HB0 HBw1 HBx HBw2 HB1 HB2
    go_region_held (fun w' => Below W.heap.size W w' ∧ w'.cell? ⟨g5, 0, none⟩ = some (.int .i64 k) ∧ w'.cell? ⟨g5, 1, none⟩ = some (.string (bs S1)) ∧ w'.cell? ⟨g5, 2, none⟩ = some (.int .i64 N1) ∧ w'.cell? ⟨g7, 0, none⟩ = some (.int .i64 k') ∧ w'.cell? ⟨g7, 1, none⟩ = some (.string (bs S2)) ∧ w'.cell? ⟨g7, 2, none⟩ = some (.int .i64 N2))
      (first | exact HK.out _ hS0 | exact HK.out _ hS0.drew | exact HK.out _ (hS0.alloc hS0.size _) | exact HK.out _ (hS0.drew.alloc hS0.size _))
      (first
        | (go_at_call 29; refine (cmp_int _ _ _).mono ?_; rintro e w3 ⟨rfl, rfl⟩)
        | (go_at_call 30; refine (cmp_int64 _ _ _).mono ?_; rintro e w3 ⟨rfl, rfl⟩)
        | (go_at_call 31; refine (cmp_str _ _ _).mono ?_; rintro e w3 ⟨rfl, rfl⟩)
        | (go_at_call 18; refine (HCF.out _ (by first | exact HBW.out.trans (hS0.mono HBW.out.size) | exact HBW.out.trans (hS0.drew.mono HBW.out.size))).mono ?_; rintro e w3 ⟨rfl, hb3⟩; have hS0 := below_trans (by first | exact hS0 | exact hS0.drew) hb3)
        | (go_at_call 28; refine (or_any [cmpI k k', cmpI N1 N2, cmpS S1 S2, O4] _ 4 _ rfl (by decide) (by intro q hq; simp only [List.length_cons, List.length_nil] at hq; rcases (show q = 0 ∨ q = 1 ∨ q = 2 ∨ q = 3 by omega) with rfl | rfl | rfl | rfl <;> simp)).mono ?_; rintro e w4 ⟨rfl, rfl⟩))
    go_wp2_with fail
    go_ret
    exact ⟨ret_int HO.out.symm, HBW.out.trans ((hS0.alloc hS0.size _).mono HBW.out.size)⟩
theorem compare_any {a b : Rep} {w : World} {cs cs' : List Value} (ha : Liv w a cs) (hb : Liv w b cs') :
    Calls Try.prog 14 #[.agg cs.toArray, .agg cs'.toArray] w fun e w' => e = .returned (.int .i64 (ord a b)) ∧ Below w.heap.size w w' := cmp_any _ a (Nat.le_refl _) b w cs cs' ha hb

set_option maxRecDepth 100000 in
set_option maxHeartbeats 4000000 in
theorem same_any {a b : Rep} {w : World} {cs cs' : List Value} (ha : Liv w a cs) (hb : Liv w b cs') :
    Calls Try.prog 20 #[.agg cs.toArray, .agg cs'.toArray] w fun e w' => e = .returned (.bool (ord a b == 0)) ∧ Below w.heap.size w w' := by
  obtain ⟨A, c, xs, rfl, hk1, hn1, hs1, hlc1, hcm1, hd1, hl1⟩ := ha.fields
  obtain ⟨A', c', xs', rfl, hk2, hn2, hs2, hlc2, hcm2, hd2, hl2⟩ := hb.fields
  have hb1 : Below w.heap.size w ((w.alloc (.cells #[.int .i64 a.k, sv a.s, .int .i64 a.n, .slice A a.l.length c] 25)).alloc (.cells #[.int .i64 b.k, sv b.s, .int .i64 b.n, .slice A' b.l.length c'] 25)) := ((Below.refl _ _).alloc (Nat.le_refl _) _).alloc (by simp) _
  have HB1 := Lib.hid hb1
  have HC := Lib.hid (compare_any (ha.below hb1) (hb.below hb1))
  obtain ⟨o, ho⟩ : ∃ o, ord a b = o := ⟨_, rfl⟩
  rw [ho] at HC ⊢
  clear hb1 ha hb hk1 hn1 hs1 hlc1 hcm1 hd1 hl1 hk2 hn2 hs2 hlc2 hcm2 hd2 hl2 ho
  go_enter Try.func20, Try.ntmps20
  go_wp2_with fail
  refine HC.out.mono ?_
  rintro e w1 ⟨rfl, hb2⟩
  go_wp2_with fail
  go_ret
  exact ⟨rfl, HB1.out.trans (hb2.mono HB1.out.size)⟩
end Go.Proofs.Ytjefpnhffdeekaa
