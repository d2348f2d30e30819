/- The walk of the law RespBack. -/
import Derived.Test.YtjdnpgdedbegfaaDoorRtpC
import Derived.IntWalk
namespace Go.Proofs.YtjdnpgdedbegfaaDoor
open Go.RowKit Go.Shelf
set_option linter.unusedVariables false

theorem two_rows {w : World} {B : Nat} {v : Value} {a b : Rep} (h : OR w B v [a, b]) : ∃ g c A1 c1 A2 c2, v = .slice (some ⟨g, 0, none⟩) 2 c ∧ g < w.heap.size ∧ 2 ≤ c ∧ c ≤ maxLen ∧
    Liv w a [.int .i64 a.k, sv a.s, .int .i64 a.n, .slice A1 a.l.length c1] ∧ Liv w b [.int .i64 b.k, sv b.s, .int .i64 b.n, .slice A2 b.l.length c2] ∧
    ((w.cell? ⟨g, 0, none⟩ = some (.int .i64 a.k) ∧ w.cell? ⟨g, 1, none⟩ = some (sv a.s) ∧ w.cell? ⟨g, 2, none⟩ = some (.int .i64 a.n) ∧ w.cell? ⟨g, 3, none⟩ = some (.slice A1 a.l.length c1)) ∧
     (w.cell? ⟨g, 4, none⟩ = some (.int .i64 b.k) ∧ w.cell? ⟨g, 5, none⟩ = some (sv b.s) ∧ w.cell? ⟨g, 6, none⟩ = some (.int .i64 b.n) ∧ w.cell? ⟨g, 7, none⟩ = some (.slice A2 b.l.length c2))) := by
  obtain ⟨xs, h1, h2⟩ := h.rls
  unfold RLs at h2
  obtain ⟨cs1, t1, rfl, hv1, h3⟩ := h2
  unfold RLs at h3
  obtain ⟨cs2, t2, rfl, hv2, h4⟩ := h3
  unfold RLs at h4
  subst h4
  have hv1' := hv1
  have hv2' := hv2
  obtain ⟨A1, c1, _, rfl, _⟩ := hv1'.fields
  obtain ⟨A2, c2, _, rfl, _⟩ := hv2'.fields
  rcases h1.form with ⟨_, hn⟩ | ⟨g, cap, rfl, _, hg, hc, hm⟩
  · simp at hn
  · have hk := fun (j : Nat) (hj : j < 8) => h1.cellAt j (by simpa using hj)
    exact ⟨g, cap, A1, c1, A2, c2, rfl, hg, by simpa using hc, hm, RV.mono (fun b hb => hb.2) hv1, RV.mono (fun b hb => hb.2) hv2,
      ⟨hk 0 (by omega), hk 1 (by omega), hk 2 (by omega), hk 3 (by omega)⟩, ⟨hk 4 (by omega), hk 5 (by omega), hk 6 (by omega), hk 7 (by omega)⟩⟩
theorem rows_keep {w w' : World} {g : Nat} {a b c d e f p q : Value}
    (h : (w.cell? ⟨g, 0, none⟩ = some a ∧ w.cell? ⟨g, 1, none⟩ = some b ∧ w.cell? ⟨g, 2, none⟩ = some c ∧ w.cell? ⟨g, 3, none⟩ = some d) ∧
      (w.cell? ⟨g, 4, none⟩ = some e ∧ w.cell? ⟨g, 5, none⟩ = some f ∧ w.cell? ⟨g, 6, none⟩ = some p ∧ w.cell? ⟨g, 7, none⟩ = some q)) (hg : g < w.heap.size) (hb : Below w.heap.size w w') :
    (w'.cell? ⟨g, 0, none⟩ = some a ∧ w'.cell? ⟨g, 1, none⟩ = some b ∧ w'.cell? ⟨g, 2, none⟩ = some c ∧ w'.cell? ⟨g, 3, none⟩ = some d) ∧
      (w'.cell? ⟨g, 4, none⟩ = some e ∧ w'.cell? ⟨g, 5, none⟩ = some f ∧ w'.cell? ⟨g, 6, none⟩ = some p ∧ w'.cell? ⟨g, 7, none⟩ = some q) := by
  obtain ⟨⟨h0, h1, h2, h3⟩, h4, h5, h6, h7⟩ := h
  have k := fun (j : Nat) => hb.cell (p := ⟨g, j, none⟩) hg
  exact ⟨⟨(k 0).trans h0, (k 1).trans h1, (k 2).trans h2, (k 3).trans h3⟩, (k 4).trans h4, (k 5).trans h5, (k 6).trans h6, (k 7).trans h7⟩

set_option maxRecDepth 100000 in
set_option maxHeartbeats 8000000 in
theorem respBack_walk (v u : Value) (m1 m2 : Nat) (w : World) (hv : ArgN w v m1) (hu : ArgN w u m2) (hmy : My w) :
    Calls Tryd.prog 7 #[v, u] w fun e w' => e = .returned (.bool true) ∧ Below w.heap.size w w' := by
  have hM1 := made_any 6 (by omega) w v m1 0 hv (Nat.zero_le _)
  have hM2 := Lib.hid (fun w' (hb : Below w.heap.size w w') => made_any 6 (by omega) w' u m2 0 (hu.below hb) (Nat.zero_le _))
  rw [show (6 - ((6 : Nat) : Int)) = 0 by omega] at hM1 hM2
  have HMy := Lib.hid hmy
  obtain ⟨Av, cv, rfl, _⟩ := hv
  obtain ⟨Au, cu, rfl, _⟩ := hu
  clear hmy
  go_enter Tryd.func7, Tryd.ntmps7
  go_wp2_with fail
  refine hM1.mono ?_
  rintro e w1 ⟨⟨x0, E0, f0, q0, rfl, hokx0, hvx0, hq0⟩, hb1⟩
  have hb2 := hb1.alloc hb1.size (.cells #[.int .i64 x0.k, sv x0.s, .int .i64 x0.n, .slice E0 x0.l.length f0] 27)
  have hlx0 : Liv (w1.alloc (.cells #[.int .i64 x0.k, sv x0.s, .int .i64 x0.n, .slice E0 x0.l.length f0] 27)) x0 _ := hvx0.liv.below ((Below.refl _ _).alloc (Nat.le_refl _) _)
  have hBx0 := Blk.new w1 27 #[.int .i64 x0.k, sv x0.s, .int .i64 x0.n, .slice E0 x0.l.length f0]
  have hM2' := hM2.out _ hb2
  have Hb2 := Lib.hid hb2
  have Hlx0 := Lib.hid hlx0
  have HBx0 := Lib.hid hBx0
  clear hb2 hlx0 hBx0 hvx0 hM2
  go_wp2_with fail
  refine hM2'.mono ?_
  rintro e w2 ⟨⟨y0, E1, f1, q1, rfl, hoky0, hvy0, hq1⟩, hb3⟩
  have hb4 := (Hb2.out.trans (hb3.mono Hb2.out.size)).alloc (Nat.le_trans Hb2.out.size hb3.size) (.cells #[.int .i64 y0.k, sv y0.s, .int .i64 y0.n, .slice E1 y0.l.length f1] 27)
  have hB5 := (HBx0.out.below hb3 HBx0.out.lt).alloc (.cells #[.int .i64 y0.k, sv y0.s, .int .i64 y0.n, .slice E1 y0.l.length f1] 27)
  have hB7 := Blk.new w2 27 #[.int .i64 y0.k, sv y0.s, .int .i64 y0.n, .slice E1 y0.l.length f1]
  have hlx := (Hlx0.out.below hb3).below ((Below.refl _ _).alloc (Nat.le_refl _) (.cells #[.int .i64 y0.k, sv y0.s, .int .i64 y0.n, .slice E1 y0.l.length f1] 27))
  have hly := hvy0.liv.below ((Below.refl _ _).alloc (Nat.le_refl _) (.cells #[.int .i64 y0.k, sv y0.s, .int .i64 y0.n, .slice E1 y0.l.length f1] 27))
  obtain ⟨W, hW⟩ : ∃ W, w2.alloc (.cells #[.int .i64 y0.k, sv y0.s, .int .i64 y0.n, .slice E1 y0.l.length f1] 27) = W := ⟨_, rfl⟩
  rw [hW] at hb4 hB5 hB7 hlx hly
  have HB4 := Lib.hid hb4
  have HPx := Lib.hid (plain_any _ x0 (Nat.le_refl _) 6 W.drew _ hokx0 (RV.drew_ (w := W) hlx))
  have HPy := Lib.hid (fun (w' : World) (hb : Below W.heap.size W w') => plain_any _ y0 (Nat.le_refl _) 6 w' _ hoky0 (hly.below hb))
  have HB5 := Lib.hid hB5
  have HB7 := Lib.hid hB7
  have g0 := hB7.cell 0
  have g1 := hB7.cell 1
  have g2 := hB7.cell 2
  have g3 := hB7.cell 3
  have h50 := hB5.cell 0
  have h51 := hB5.cell 1
  have h52 := hB5.cell 2
  have h53 := hB5.cell 3
  have Hlt : Hid (w1.heap.size < w2.heap.size) := Lib.hid (by have := hb3.size; simp at this; omega)
  clear hb4 hB5 hB7 hlx hly hvy0
  go_wp2_with fail
  try rw [hW]
  clear hW
  have hne1 : ¬ w1.heap.size = w2.heap.size := by have := Hlt.out; omega
  have hne2 : ¬ w2.heap.size = w1.heap.size := by have := Hlt.out; omega
  go_region_law (first
    | (refine step_call (by rfl) 14 #[.tmp 29] _ (by rfl) _ HPx.out (by simp [Act.eval]) enter_plain ?_; rintro e w3 ⟨⟨E2, f2, rfl, hvx⟩, hb5⟩; refine ⟨_, rfl, ?_⟩; have hS3 : Below W.heap.size W w3 := (Below.refl W.heap.size W).drew.trans hb5; have hB73 := HB7.out.below hS3 HB7.out.lt; have g0 := hB73.cell 0; have g1 := hB73.cell 1; have g2 := hB73.cell 2; have g3 := hB73.cell 3; have hPy3 := HPy.out w3 hS3; have HB53 := Lib.hid (HB5.out.below hS3 HB5.out.lt); have HB73 := Lib.hid hB73; clear hB73)
    | (refine step_call (by rfl) 14 #[.tmp 31] _ (by rfl) _ hPy3 (by simp [Act.eval]) enter_plain ?_; rintro e w4 ⟨⟨E3, f3, rfl, hvy⟩, hb6⟩; refine ⟨_, rfl, ?_⟩; have hS4 : Below W.heap.size W w4 := hS3.trans (hb6.mono hS3.size); have hB54 := HB53.out.below hb6 HB53.out.lt; have hB74 := HB73.out.below hb6 HB73.out.lt; have a0 := hB54.cell 0; have a1 := hB54.cell 1; have a2 := hB54.cell 2; have a3 := hB54.cell 3; have az0 := hB54.frozen 0; have az1 := hB54.frozen 1; have az2 := hB54.frozen 2; have az3 := hB54.frozen 3; have b0 := hB74.cell 0; have b1 := hB74.cell 1; have b2 := hB74.cell 2; have b3 := hB74.cell 3; have bz0 := hB74.frozen 0; have bz1 := hB74.frozen 1; have bz2 := hB74.frozen 2; have bz3 := hB74.frozen 3; have HB54 := Lib.hid hB54; have HB74 := Lib.hid hB74; clear hB54 hB74))
  all_goals
    obtain ⟨hxM, hxR⟩ := pln_ok 6 x0 hokx0
    obtain ⟨hyM, hyR⟩ := pln_ok 6 y0 hoky0
    obtain ⟨V, hV, hBx, hBy, hlx, hly⟩ := back_world (w1 := w1) (w2 := w2) (x0 := x0) (y0 := y0) (xc0 := #[]) (yc0 := #[]) (E2 := E2) (E3 := E3) (f2 := f2) (f3 := f3) HB54.out HB74.out hne1 HB5.out.lt HB7.out.lt hS3 hb6 hvx hvy
    have hbV : Below w.heap.size w V := by
      rw [← hV]
      exact put4_below (put4_below (HB4.out.trans (hS4.mono HB4.out.size)) _ (by have := hb1.size; omega) _ _ _ _) _ (by have := Hlt.out; have := hb1.size; omega) _ _ _ _
    show Exit.then _ _ _ _ (put4 (put4 w4 w1.heap.size (.int .i64 x0.pln.k) (sv x0.pln.s) (.int .i64 x0.pln.n) (.slice E2 x0.pln.l.length f2)) w2.heap.size (.int .i64 y0.pln.k) (sv y0.pln.s) (.int .i64 y0.pln.n) (.slice E3 y0.pln.l.length f3))
    rw [hV]
    obtain ⟨x, hx⟩ : ∃ x, x0.pln = x := ⟨_, rfl⟩
    obtain ⟨y, hy⟩ : ∃ y, y0.pln = y := ⟨_, rfl⟩
    rw [hx] at hxM hxR hBx hlx
    rw [hy] at hyM hyR hBy hly
    try rw [hx]
    try rw [hy]
    have HMV := Lib.hid (fun (w' : World) (hb : Below V.heap.size V w') => HMy.out.below_ (hbV.trans (hb.mono hbV.size)))
    obtain ⟨X, hX⟩ : ∃ X, enc true x = X := ⟨_, rfl⟩
    obtain ⟨Y, hY⟩ : ∃ Y, enc false y = Y := ⟨_, rfl⟩
    have hXl := Nat.le_trans (enc_size true 6 x hxM) (show sz 6 ≤ 500000 by decide)
    have hYl := Nat.le_trans (enc_size false 6 y hyM) (show sz 6 ≤ 500000 by decide)
    have HEx := Lib.hid (fun (w' : World) (hb : Below V.heap.size V w') => encode_any x 3 true w' _ (hlx.below hb) (HMV.out w' hb) rfl (by unfold fits; omega) (Nat.le_trans hXl (by omega)))
    have HEy := Lib.hid (fun (w' : World) (hb : Below V.heap.size V w') => encode_any y 2 false w' _ (hly.below hb) (HMV.out w' hb) rfl (by unfold fits; omega) (Nat.le_trans hYl (by omega)))
    have HAll := Lib.hid (fun (acc : List Rep) (q : Nat) (h : AllOf (enc true x ++ enc false y) acc q) => back_all hxM hxR hyM hyR h)
    obtain ⟨XL, hXL⟩ : ∃ XL, X.length = XL := ⟨_, rfl⟩
    obtain ⟨YL, hYL⟩ : ∃ YL, Y.length = YL := ⟨_, rfl⟩
    obtain ⟨p, hp⟩ : ∃ p, red true x = p := ⟨_, rfl⟩
    obtain ⟨s, hs⟩ : ∃ s, red false y = s := ⟨_, rfl⟩
    have HDx := Lib.hid (fun (v : Value) (w' : World) (h : BSl w' v (enc true x)) => decode_back true hxM hxR v w' h p hp XL (by rw [hX]; exact hXL))
    have HDy := Lib.hid (fun (v : Value) (w' : World) (h : BSl w' v (enc false y)) => decode_back false hyM hyR v w' h s hs YL (by rw [hY]; exact hYL))
    have HSx := Lib.hid (show p.norm = x.norm by rw [← hp]; exact norm_norm x)
    have HSs := Lib.hid (show y.flat = s by rw [← hs]; rfl)
    have HAcc := Lib.hid (show x.norm = p by rw [← hp]; rfl)
    rw [hX, hY] at HAll
    rw [hX] at HEx HDx hXl
    rw [hY] at HEy HDy hYl
    rw [hXL] at hXl
    rw [hYL] at hYl
    have HXL := Lib.hid hXL
    have HYL := Lib.hid hYL
    have HBV := Lib.hid hbV
    have HBx := Lib.hid hBx
    have HBy := Lib.hid hBy
    have Hlx := Lib.hid hlx
    have Hly := Lib.hid hly
    have HyM := Lib.hid hyM
    have hS0 : Below V.heap.size V V := Below.refl _ _
    have k0 := hBx.x4
    obtain ⟨c50, c51, c52, c53⟩ := k0
    clear hV hbV hx hy hX hY hXL hYL hp hs hBx hBy hlx hly hxM hxR hyM hyR HPx HPy HB5 HB7 HB53 HB73 HB54 HB74 hS3 hS4 hb5 hb6 hvx hvy hPy3 g0 g1 g2 g3 h50 h51 h52 h53 a0 a1 a2 a3 az0 az1 az2 az3 b0 b1 b2 b3 bz0 bz1 bz2 bz3
    go_wp2_with fail
    refine (HEx.out V hS0).mono ?_
    rintro e v1 ⟨va, rfl, hOa, hS1⟩
    have hOa1 := hOa
    unfold OB at hOa1
    rw [HXL.out] at hOa1
    obtain ⟨Aa, ca, rfl⟩ := hOa1.sliceForm
    go_wp2_with fail
    refine (HDx.out _ v1 hOa.bsl).mono ?_
    rintro e v2 ⟨⟨Er, fr, rfl, hvr⟩, hc2⟩
    have hS2 := (hS1.trans (hc2.mono hS1.size)).alloc (Nat.le_trans hS1.size hc2.size) (.cells #[.int .i64 p.k, sv p.s, .int .i64 p.n, .slice Er p.l.length fr] 27)
    have hlr := hvr.liv.below ((Below.refl _ _).alloc (Nat.le_refl _) (.cells #[.int .i64 p.k, sv p.s, .int .i64 p.n, .slice Er p.l.length fr] 27))
    have hSm := same_true hlr (Hlx.out.below hS2) HSx.out
    have hOa2 := (hOa.keep_ hc2).keep_ ((Below.refl _ _).alloc (Nat.le_refl _) (.cells #[.int .i64 p.k, sv p.s, .int .i64 p.n, .slice Er p.l.length fr] 27))
    obtain ⟨d50, d51, d52, d53⟩ := (HBx.out.below hS2 HBx.out.lt).x4
    have HS2 := Lib.hid hS2
    have HOa2 := Lib.hid hOa2
    clear hS2 hlr hvr hOa2 hOa1 hOa c50 c51 c52 c53
    go_wp2_with fail
    refine hSm.mono ?_
    rintro e v3 ⟨rfl, hc3⟩
    have hS3 := HS2.out.trans (hc3.mono HS2.out.size)
    have hOa3 := HOa2.out.keep_ hc3
    obtain ⟨e70, e71, e72, e73⟩ := (HBy.out.below hS3 HBy.out.lt).x4
    go_wp2_with fail
    refine (HEy.out v3 hS3).mono ?_
    rintro e v4 ⟨vb, rfl, hOb, hc4⟩
    have hS4 := hS3.trans (hc4.mono hS3.size)
    have hOa4 := hOa3.keep_ hc4
    have hOb1 := hOb
    unfold OB at hOb1
    rw [HYL.out] at hOb1
    obtain ⟨Ab, cb, rfl⟩ := hOb1.sliceForm
    clear hOb1
    go_wp2_with fail
    refine (HDy.out _ v4 hOb.bsl).mono ?_
    rintro e v5 ⟨⟨Es, fs, rfl, hvs⟩, hc5⟩
    have hS5 := (hS4.trans (hc5.mono hS4.size)).alloc (Nat.le_trans hS4.size hc5.size) (.cells #[.int .i64 s.k, sv s.s, .int .i64 s.n, .slice Es s.l.length fs] 27)
    have hls := hvs.liv.below ((Below.refl _ _).alloc (Nat.le_refl _) (.cells #[.int .i64 s.k, sv s.s, .int .i64 s.n, .slice Es s.l.length fs] 27))
    have hB14 := Blk.new v5 27 #[.int .i64 s.k, sv s.s, .int .i64 s.n, .slice Es s.l.length fs]
    have hOa5 := (hOa4.keep_ hc5).keep_ ((Below.refl _ _).alloc (Nat.le_refl _) (.cells #[.int .i64 s.k, sv s.s, .int .i64 s.n, .slice Es s.l.length fs] 27))
    have hOb5 := (hOb.keep_ hc5).keep_ ((Below.refl _ _).alloc (Nat.le_refl _) (.cells #[.int .i64 s.k, sv s.s, .int .i64 s.n, .slice Es s.l.length fs] 27))
    obtain ⟨U, hU⟩ : ∃ U, v5.alloc (.cells #[.int .i64 s.k, sv s.s, .int .i64 s.n, .slice Es s.l.length fs] 27) = U := ⟨_, rfl⟩
    rw [hU] at hS5 hls hB14 hOa5 hOb5
    have HS5 := Lib.hid hS5
    have HK := Lib.hid (fun (w' : World) (hb : Below U.heap.size U w') => And.intro (hB14.below hb hB14.lt).x4 ((HBy.out.below (hS5.trans (hb.mono hS5.size)) HBy.out.lt).x4))
    have HK2 := Lib.hid (fun (w' : World) (hb : Below U.heap.size U w') => And.intro (hB14.below hb hB14.lt).x4 ((HBx.out.below (hS5.trans (hb.mono hS5.size)) HBx.out.lt).x4))
    have HFy := Lib.hid (fun (w' : World) (hb : Below U.heap.size U w') => flat_any _ y (Nat.le_refl _) 6 w' _ HyM.out (Hly.out.below (hS5.trans (hb.mono hS5.size))) (HMV.out w' (hS5.trans (hb.mono hS5.size))))
    have HSy := Lib.hid (fun (w' : World) (hb : Below U.heap.size U w') (cs : List Value) (hl : Liv w' y.flat cs) => same_true (hls.below hb) hl (by rw [HSs.out]))
    have HSs2 := Lib.hid (fun (w' : World) (hb : Below U.heap.size U w') (cs : List Value) (hl : Liv w' s cs) => same_true hl (hls.below hb) rfl)
    have HSx2 := Lib.hid (fun (w' : World) (hb : Below U.heap.size U w') (cs : List Value) (hl : Liv w' p cs) => same_true hl (Hlx.out.below (hS5.trans (hb.mono hS5.size))) HSx.out)
    have HOa5 := Lib.hid hOa5
    have HOb5 := Lib.hid hOb5
    have hT0 : Below U.heap.size U U := Below.refl _ _
    clear hS5 hls hB14 hOa5 hOb5 hvs hOb hOa4 hOa3 hS3 hS4 hS1 hS0 hc2 hc3 hc4 hc5 d50 d51 d52 d53 e70 e71 e72 e73
    go_wp2_with fail
    try rw [hU]
    clear hU
    go_region_held (fun w' => (w'.cell? ⟨v5.heap.size, 0, none⟩ = some (.int .i64 s.k) ∧ w'.cell? ⟨v5.heap.size, 1, none⟩ = some (sv s.s) ∧ w'.cell? ⟨v5.heap.size, 2, none⟩ = some (.int .i64 s.n) ∧ w'.cell? ⟨v5.heap.size, 3, none⟩ = some (.slice Es s.l.length fs)) ∧ (w'.cell? ⟨w2.heap.size, 0, none⟩ = some (.int .i64 y.k) ∧ w'.cell? ⟨w2.heap.size, 1, none⟩ = some (sv y.s) ∧ w'.cell? ⟨w2.heap.size, 2, none⟩ = some (.int .i64 y.n) ∧ w'.cell? ⟨w2.heap.size, 3, none⟩ = some (.slice E3 y.l.length f3))) (first | exact HK.out _ hT0 | exact HK.out _ hT0.drew)
      (first
        | (go_at_call 16; refine (HFy.out _ hT0.drew).mono ?_; rintro e v6 ⟨⟨E6, f6, rfl, hv6⟩, hc6⟩; have hT0 := below_trans hT0.drew hc6; have hl6 := hv6.liv)
        | (go_at_call 17; refine (HSy.out _ hT0 _ hl6).mono ?_; rintro e v7 ⟨rfl, hc7⟩; have hT0 := below_trans hT0 hc7))
    clear hc6 hl6 hv6
    have hTs := hT0.size
    have hOa7 := HOa5.out.keep_ hT0
    have hOb7 := HOb5.out.keep_ hT0
    unfold OB at hOa7 hOb7
    rw [HXL.out] at hOa7
    rw [HYL.out] at hOb7
    have hnb : (Value.slice Ab YL cb).ownBlock = none ∨ (Value.slice Ab YL cb).ownBlock ≠ (Value.slice (some ⟨v7.heap.size, 0, none⟩) 0 0).ownBlock := .inr (fun e => by have h := (hOb7.lt v7.heap.size e).2; exact Nat.lt_irrefl _ h)
    have hO7 : Own (v7.alloc (.cells #[] 5)) v7.heap.size 5 1 (.slice (some ⟨v7.heap.size, 0, none⟩) 0 0) 0 [] := Own.lit (base := v7.heap.size) v7 #[] 0 (Nat.le_refl _) (by decide) rfl
    have hOa8 := hOa7.alloc (.cells #[] 5)
    have hOb8 := hOb7.alloc (.cells #[] 5)
    have hbl8 : Below v7.heap.size v7 (v7.alloc (.cells #[] 5)) := (Below.refl _ _).alloc (Nat.le_refl _) _
    have hbs8 := hbl8.size
    clear hOa7 hOb7
    obtain ⟨iu, hiu, hu0, hu1, hu2⟩ := info_parts u8info
    go_wp2_with (first
      | (at_builtin; refine wpList_append_Own _ rfl (.tmp 79) (.tmp 80) _ _ rfl v7.heap.size 5 iu _ 1 1 Tryd.underlying23 hiu hu0 hu1 hu2 rfl (.slice (some ⟨v7.heap.size, 0, none⟩) 0 0) 0 [] rfl hO7 _ XL (bv X) rfl (Src.own hOa8 Tryd.underlying23 (bv_one X) (by decide)) (by unfold maxLen; omega) (by omega) hbs8 ?_; intro v8 w8 hO8 hg8 hat8; rw [Nat.zero_add, List.nil_append] at hO8; obtain ⟨A8, c8, rfl⟩ := hO8.sliceForm; have hOb9 := hOb8.kept hg8 hnb; have hbl9 := hbl8.grown hg8 hbs8 (fun k hk => (hO7.lt k hk).1); have hbs9 := hbl9.size; clear hO7 hOa8 hOb8 hnb)
      | (at_builtin; refine wpList_append_Own _ rfl (.tmp 81) (.tmp 82) _ _ rfl v7.heap.size 5 iu _ 1 1 Tryd.underlying23 hiu hu0 hu1 hu2 rfl (.slice A8 XL c8) XL (bv X) rfl hO8 _ YL (bv Y) rfl (Src.own hOb9 Tryd.underlying23 (bv_one Y) (by decide)) (by unfold maxLen; omega) (by omega) hbs9 ?_; intro v9 w9 hO9 hg9 hat9; have hO9' : OB w9 v7.heap.size 5 v9 (X ++ Y) := OB.mk hO9 (bv_append X Y).symm; have hbl10 := hbl9.grown hg9 hbs9 (fun k hk => (hO8.lt k hk).1); clear hO8 hOb9 hO9))
    have hT9 := hT0.trans (hbl10.mono hT0.size)
    have hbsl := hO9'.bsl
    refine (all_any _ _ w9 hbsl (by rw [List.length_append, HXL.out, HYL.out]; omega)).mono ?_
    rintro e w10 ⟨⟨va, acc, q, rfl, hOR, hall⟩, hbA⟩
    obtain ⟨ha, hq⟩ := HAll.out acc q hall
    rw [HAcc.out, HSs.out] at ha
    rw [HXL.out, HYL.out] at hq
    subst ha
    obtain ⟨g, cg, A1, c1, A2, c2, rfl, hgl, hgc, hgm, hl1, hl2, hcs⟩ := two_rows hOR
    subst hq
    have hT10 := hT9.trans (hbA.mono hT9.size)
    have HKR := Lib.hid (fun (w' : World) (hb : Below w10.heap.size w10 w') => rows_keep hcs hgl hb)
    have HK3 := Lib.hid (fun (w' : World) (hb : Below w10.heap.size w10 w') => HK2.out w' (hT10.trans (hb.mono hT10.size)))
    have H1 := Lib.hid (fun (w' : World) (hb : Below w10.heap.size w10 w') => HSx2.out w' (hT10.trans (hb.mono hT10.size)) _ (hl1.below hb))
    have H2 := Lib.hid (fun (w' : World) (hb : Below w10.heap.size w10 w') => HSs2.out w' (hT10.trans (hb.mono hT10.size)) _ (hl2.below hb))
    have H3 := Lib.hid (fun (w' : World) (hb : Below w10.heap.size w10 w') => known_any w' (HMV.out w' ((HS5.out.trans (hT10.mono HS5.out.size)).trans (hb.mono (Nat.le_trans HS5.out.size hT10.size)))))
    have HT10 := Lib.hid hT10
    have hR0 : Below w10.heap.size w10 w10 := Below.refl _ _
    have hcg : cg ≤ 9223372036854775807 := by unfold maxLen at hgm; exact hgm
    obtain ⟨Z, hZ⟩ : ∃ Z : Nat, XL + YL = Z := ⟨_, rfl⟩
    have hw1 : IntKind.i64.wrap ((XL : Int) + (YL : Int)) = (Z : Int) := by rw [IntWalk.i64_in _ (by omega)]; omega
    rw [hZ]
    clear hZ hT0 hTs hT9 hT10 hbsl hO9' hbl10 hbl9 hbl8 hbs8 hbs9 hg8 hg9 hat8 hat9 hOR hall hl1 hl2 hcs hbA hiu hu0 hu1 hu2
    go_wp2_with fail
    go_region_held (fun w' => ((w'.cell? ⟨g, 0, none⟩ = some (.int .i64 p.k) ∧ w'.cell? ⟨g, 1, none⟩ = some (sv p.s) ∧ w'.cell? ⟨g, 2, none⟩ = some (.int .i64 p.n) ∧ w'.cell? ⟨g, 3, none⟩ = some (.slice A1 p.l.length c1)) ∧ (w'.cell? ⟨g, 4, none⟩ = some (.int .i64 s.k) ∧ w'.cell? ⟨g, 5, none⟩ = some (sv s.s) ∧ w'.cell? ⟨g, 6, none⟩ = some (.int .i64 s.n) ∧ w'.cell? ⟨g, 7, none⟩ = some (.slice A2 s.l.length c2))) ∧ ((w'.cell? ⟨v5.heap.size, 0, none⟩ = some (.int .i64 s.k) ∧ w'.cell? ⟨v5.heap.size, 1, none⟩ = some (sv s.s) ∧ w'.cell? ⟨v5.heap.size, 2, none⟩ = some (.int .i64 s.n) ∧ w'.cell? ⟨v5.heap.size, 3, none⟩ = some (.slice Es s.l.length fs)) ∧ (w'.cell? ⟨w1.heap.size, 0, none⟩ = some (.int .i64 x.k) ∧ w'.cell? ⟨w1.heap.size, 1, none⟩ = some (sv x.s) ∧ w'.cell? ⟨w1.heap.size, 2, none⟩ = some (.int .i64 x.n) ∧ w'.cell? ⟨w1.heap.size, 3, none⟩ = some (.slice E2 x.l.length f2)))) (first | exact ⟨HKR.out _ hR0, HK3.out _ hR0⟩ | exact ⟨HKR.out _ hR0.drew, HK3.out _ hR0.drew⟩)
      (first
        | (go_at_call 17; refine (H1.out _ hR0.drew).mono ?_; rintro e w11 ⟨rfl, hd1⟩; have hR0 := below_trans hR0.drew hd1)
        | (go_at_call 17; refine (H2.out _ hR0).mono ?_; rintro e w12 ⟨rfl, hd2⟩; have hR0 := below_trans hR0 hd2)
        | (go_at_call 11; refine (H3.out _ hR0).mono ?_; rintro e w13 ⟨rfl, hd3⟩; have hR0 := below_trans hR0 hd3))
    go_wp2_with fail
    go_ret
    exact ⟨rfl, HBV.out.trans (((HS5.out.trans (HT10.out.mono HS5.out.size)).trans (hR0.mono (Nat.le_trans HS5.out.size HT10.out.size))).mono HBV.out.size)⟩
end Go.Proofs.YtjdnpgdedbegfaaDoor
