/- The walk of the reference's counted (tallboyref18), where there are parts. -/
import Derived.Test.YtjdnpgdedbegfaaDoorRtpR
import Derived.Test.YtjdnpgdedbegfaaDoorRtpN
namespace Go.Proofs.YtjdnpgdedbegfaaDoor
open Go.RowKit Go.Shelf
set_option linter.unusedVariables false

set_option maxRecDepth 100000 in
set_option maxHeartbeats 16000000 in
theorem rcnt_many42 (d : Nat) (hd : d ≤ 1000) (ih : RDecAt d) (l b : List UInt8) (p : Nat) (nn : Int) (w : World) (hc : l = 42 :: b) (hl : l.length ≤ 1048576) (hp : p ≤ l.length) (hf : fits nn) :
    Calls Tryd.prog 42 #[.string (bs l), .int .i64 nn, .int .i64 (p : Nat), .int .i64 ((d + 1 : Nat) : Int)] w fun e w' => RD3 w w' e l.length (Rsp.cnt (Rsp.rd d l.length) l.length 42 nn (l.drop p)) ∧ Below w.heap.size w w' := by
  obtain ⟨i0, hi, hz0, hz1, hz2⟩ := info_parts repinfo
  obtain ⟨n, hn⟩ : ∃ n, l.length = n := ⟨_, rfl⟩
  have HN := Lib.hid hn
  have hsz : (bs l).size = n := by rw [bs_size]; exact hn
  have h0 : 0 < n := by rw [← hn, hc]; simp
  have hz : 0 < (bs l).size := by rw [hsz]; exact h0
  have hg0 : (bs l)[0]'hz = 42 := by rw [bs_get18 l 0 hz (by rw [hn]; exact h0)]; simp [hc]
  rw [hn] at hl hp ⊢
  have HZ := Lib.hid (zz_blk w #[.int .i64 0, .string ⟨#[]⟩, .int .i64 0, .slice none 0 0])
  have HB := Lib.hid (zz_below w #[.int .i64 0, .string ⟨#[]⟩, .int .i64 0, .slice none 0 0])
  obtain ⟨X, hX⟩ : ∃ X, Rsp.cnt (Rsp.rd d n) n 42 nn (l.drop p) = X := ⟨_, rfl⟩
  rw [hX]
  obtain ⟨D, hD⟩ : ∃ D, d + 1 = D := ⟨_, rfl⟩
  rw [hD]
  have HXX := Lib.hid hX
  have HTL := Lib.hid (show (l.drop p).length = n - p by rw [List.length_drop, hn])
  have i1 : (0 : Int) < (n : Int) := by omega
  have HF := Lib.hid hf
  have hf1 : -9223372036854775808 ≤ nn := hf.1
  have hf2 : nn ≤ 9223372036854775807 := hf.2
  have hpI : (p : Int) ≤ (n : Int) := by omega
  have hnI : (n : Int) ≤ 1048576 := by omega
  have e9 : (D : Int) - 1 = (d : Int) := by omega
  have hdI : (d : Int) ≤ 1000 := by omega
  have hdI0 : (0 : Int) ≤ (d : Int) := by omega
  clear hc hX hn hf hD
  by_cases h1 : nn = -1
  · subst h1
    have HR := Lib.hid (show X = some (.mk 6 [] 0 [], l.drop p) by rw [← HXX.out]; rfl)
    have HT := Lib.hid (show n - (l.drop p).length = p by rw [HTL.out]; omega)
    have HZ2 := Lib.hid (zz_blk w #[.int .i64 6, .string ⟨#[]⟩, .int .i64 0, .slice none 0 0])
    have HB2 := Lib.hid (zz_below w #[.int .i64 6, .string ⟨#[]⟩, .int .i64 0, .slice none 0 0])
    go_enter Tryd.func42, Tryd.ntmps42
    go_wp2_with fail
    refine bodyPost_ret (ret_cell3 rfl _ _ w.heap.size _ _ _ _ _ rfl HZ2.out) rfl ?_
    rw [HR.out]
    refine ⟨⟨none, 0, ?_, RV.flat_ (s := []) (by unfold fits; omega) (by unfold fits; omega) (Nat.zero_le _)⟩, HB2.out⟩
    rw [HT.out]; rfl
  · have HC := Lib.hid (show X = Rsp.many 7 (Rsp.rd d n) n nn nn.toNat (l.drop p) by rw [← HXX.out]; unfold Rsp.cnt; rw [if_neg (by decide), if_neg (by decide), if_pos rfl, if_neg h1])
    have q1 : (nn == -1) = false := by simpa using h1
    by_cases h2 : nn < 0
    · have HR := Lib.hid (show X = none by rw [HC.out]; unfold Rsp.many; rw [if_pos (.inl h2)])
      clear h1
      go_enter Tryd.func42, Tryd.ntmps42
      go_wp2_with fail
      refine bodyPost_ret (ret_cell3 rfl _ _ w.heap.size _ _ _ _ _ rfl HZ.out) rfl ?_
      rw [HR.out]
      exact ⟨rfl, HB.out⟩
    · by_cases h3 : (n : Int) < nn
      · have HR := Lib.hid (show X = none by rw [HC.out]; unfold Rsp.many; rw [if_pos (.inr h3)])
        clear h1
        go_enter Tryd.func42, Tryd.ntmps42
        go_wp2_with fail
        refine bodyPost_ret (ret_cell3 rfl _ _ w.heap.size _ _ _ _ _ rfl HZ.out) rfl ?_
        rw [HR.out]
        exact ⟨rfl, HB.out⟩
      · obtain ⟨k, rfl⟩ : ∃ k : Nat, nn = (k : Int) := ⟨nn.toNat, by omega⟩
        have hkn : k ≤ n := by omega
        obtain ⟨M, hM⟩ : ∃ M, k = M := ⟨_, rfl⟩
        subst hM
        have hM : k = k := rfl
        have hMn : k ≤ 2097152 := by omega
        have HX := Lib.hid (show X = (Rsp.reps (Rsp.rd d n) k (l.drop p)).map (fun z => (.mk 7 [] 0 z.1, z.2)) by
          rw [HC.out]; unfold Rsp.many; rw [if_neg (by omega), Int.toNat_natCast, hM])
        have em : (0 : Int) ≤ (k : Int) := by omega
        have j1 : ¬ (n : Int) < (k : Int) := by omega
        have j2 : (k : Int) ≤ (n : Int) := by omega
        have HX0 := Lib.hid (show Below w.heap.size w (((w.alloc (.cells #[.int .i64 0, .string ⟨#[]⟩, .int .i64 0, .slice none 0 0] 27)).alloc (.cells #[.int .i64 0, .string ⟨#[]⟩, .int .i64 0, .slice none 0 0] 27)).alloc (.cells #[.int .i64 7, .string ⟨#[]⟩, .int .i64 0, .slice none 0 0] 27)) from (((Below.refl _ _).alloc (Nat.le_refl _) _).alloc (by simp) _).alloc (by simp; omega) _)
        have HX1 := Lib.hid (show Blk (((w.alloc (.cells #[.int .i64 0, .string ⟨#[]⟩, .int .i64 0, .slice none 0 0] 27)).alloc (.cells #[.int .i64 0, .string ⟨#[]⟩, .int .i64 0, .slice none 0 0] 27)).alloc (.cells #[.int .i64 7, .string ⟨#[]⟩, .int .i64 0, .slice none 0 0] 27)) w.heap.size 27 #[.int .i64 0, .string ⟨#[]⟩, .int .i64 0, .slice none 0 0] from ((Blk.new w _ _).alloc _).alloc _)
        have hx2 : Blk (((w.alloc (.cells #[.int .i64 0, .string ⟨#[]⟩, .int .i64 0, .slice none 0 0] 27)).alloc (.cells #[.int .i64 0, .string ⟨#[]⟩, .int .i64 0, .slice none 0 0] 27)).alloc (.cells #[.int .i64 7, .string ⟨#[]⟩, .int .i64 0, .slice none 0 0] 27)) (w.heap.size + 1) 27 #[.int .i64 0, .string ⟨#[]⟩, .int .i64 0, .slice none 0 0] := by
          have := Blk.new (w.alloc (.cells #[.int .i64 0, .string ⟨#[]⟩, .int .i64 0, .slice none 0 0] 27)) 27 #[.int .i64 0, .string ⟨#[]⟩, .int .i64 0, .slice none 0 0]
          rw [World.alloc_size] at this
          exact this.alloc _
        have hx3 : Blk (((w.alloc (.cells #[.int .i64 0, .string ⟨#[]⟩, .int .i64 0, .slice none 0 0] 27)).alloc (.cells #[.int .i64 0, .string ⟨#[]⟩, .int .i64 0, .slice none 0 0] 27)).alloc (.cells #[.int .i64 7, .string ⟨#[]⟩, .int .i64 0, .slice none 0 0] 27)) (w.heap.size + 2) 27 #[.int .i64 7, .string ⟨#[]⟩, .int .i64 0, .slice none 0 0] := by
          have := Blk.new ((w.alloc (.cells #[.int .i64 0, .string ⟨#[]⟩, .int .i64 0, .slice none 0 0] 27)).alloc (.cells #[.int .i64 0, .string ⟨#[]⟩, .int .i64 0, .slice none 0 0] 27)) 27 #[.int .i64 7, .string ⟨#[]⟩, .int .i64 0, .slice none 0 0]
          rw [World.alloc_size, World.alloc_size] at this
          exact this
        have HX2 := Lib.hid hx2
        have HX3 := Lib.hid hx3
        have HZS := Lib.hid (show ((((w.alloc (.cells #[.int .i64 0, .string ⟨#[]⟩, .int .i64 0, .slice none 0 0] 27)).alloc (.cells #[.int .i64 0, .string ⟨#[]⟩, .int .i64 0, .slice none 0 0] 27)).alloc (.cells #[.int .i64 7, .string ⟨#[]⟩, .int .i64 0, .slice none 0 0] 27))).heap.size = w.heap.size + 3 by rw [World.alloc_size, World.alloc_size, World.alloc_size])
        clear h1 h2 h3 hx2 hx3 hM
        go_enter Tryd.func42, Tryd.ntmps42
        go_wp2_with fail
        obtain ⟨G, hGe⟩ : ∃ G, w.heap.size + 2 = G := ⟨_, rfl⟩
        have hG : w.heap.size + 2 ≤ G := by omega
        rw [hGe] at HX3
        have HZ2 := Lib.hid (HZS.out.trans (show w.heap.size + 3 = G + 1 by omega))
        try rw [hGe]
        clear hGe
        go_loopw [1, 2] (fun x y wr => ∃ (m q : Nat) (acc : List Rep) (v : Value), x = .int .i64 (m : Nat) ∧ y = .int .i64 (q : Nat) ∧ q ≤ n ∧ acc.length + m = k ∧ Blk wr w.heap.size 27 #[.int .i64 0, .string ⟨#[]⟩, .int .i64 0, .slice none 0 0] ∧ Blk wr (w.heap.size + 1) 27 #[.int .i64 0, .string ⟨#[]⟩, .int .i64 0, .slice none 0 0] ∧ Blk wr G 27 #[.int .i64 7, .string ⟨#[]⟩, .int .i64 0, v] ∧ OR wr (G + 1) v acc ∧ Hid (Rsp.reps (Rsp.rd d n) k (l.drop p) = (Rsp.reps (Rsp.rd d n) m (l.drop q)).map (fun z => (acc ++ z.1, z.2))) ∧ Below w.heap.size w wr ∧ G + 1 ≤ wr.heap.size) (fun x _ _ => (intOf x).toNat)
        case atStart => exact ⟨k, p, [], _, by first | rfl | (congr 1; omega), rfl, hp, by simp, HX1.out, HX2.out, HX3.out, OR.nil _ _, Lib.hid (by cases Rsp.reps (Rsp.rd d n) k (l.drop p) <;> simp), HX0.out, by rw [HZ2.out]; omega⟩
        case round =>
          clear em j1 j2
          obtain ⟨m, q, acc, v, rfl, rfl, hq, hacc, hB1, hB2, hB3, hO, HRP, hbel, hsz⟩ := hrel
          obtain ⟨i, hil⟩ : ∃ i, acc.length = i := ⟨_, rfl⟩
          have HIL := Lib.hid hil
          rw [hil] at hacc
          obtain ⟨xs1, hown, hrl⟩ := id hO
          rw [hil] at hown
          clear hil
          obtain ⟨Av, cv, rfl⟩ := hown.sliceForm
          have HOO := Lib.hid hO
          clear hO
          rcases Nat.eq_zero_or_pos m with rfl | hm
          · have HR := Lib.hid (show X = some (.mk 7 [] 0 acc, l.drop q) by rw [HX.out, HRP.out]; simp [Rsp.reps])
            have HT := Lib.hid (show n - (l.drop q).length = q by rw [List.length_drop, HN.out]; omega)
            have k1 : ¬ (0 : Int) < ((0 : Nat) : Int) := by omega
            have x2 := hB1.x4
            have z0 := hB1.frozen 0
            have z1 := hB1.frozen 1
            have z2 := hB1.frozen 2
            have z3 := hB1.frozen 3
            have x3 := hB3.x4
            have HBF := Lib.hid hbel
            have HO1 := Lib.hid hown
            clear hbel hown hrl
            go_wp2_with fail
            refine bodyPost_ret (ret_cell3 rfl _ _ w.heap.size _ _ _ _ _ rfl (hB1.put4 _ _ _ _)) rfl ?_
            rw [HR.out]
            have hOp := HOO.out.put4 (g := w.heap.size) (by omega) (.int .i64 7) (.string ⟨#[]⟩) (.int .i64 0) (.slice Av i cv)
            have hrv := OR.rv (k := 7) (n := 0) (s := []) (S := New w (put4 wr w.heap.size (.int .i64 7) (.string ⟨#[]⟩) (.int .i64 0) (.slice Av i cv))) hOp (by unfold fits; omega) (by unfold fits; omega) (Nat.zero_le _) HIL.out.symm (fun b h1 h2 => ⟨by omega, h2⟩)
            refine ⟨⟨Av, cv, ?_, hrv⟩, put4_below HBF.out _ (Nat.le_refl _) _ _ _ _⟩
            rw [HT.out]
            show Ending.returned (.tuple #[.agg #[.int .i64 7, .string ⟨#[]⟩, .int .i64 0, .slice Av i cv], .int .i64 (q : Nat), .bool true]) = Ending.returned (.tuple #[.agg #[.int .i64 7, .string ⟨#[]⟩, .int .i64 0, .slice Av acc.length cv], .int .i64 (q : Nat), .bool true])
            rw [HIL.out]
          · obtain ⟨m', rfl⟩ : ∃ m', m = m' + 1 := ⟨m - 1, by omega⟩
            have hex : (bs l).extract q n = bs (l.drop q) := by rw [bs_extract, bs_data, List.take_of_length_le (by rw [List.length_drop, HN.out]; omega)]
            have hlq : (l.drop q).length = n - q := by rw [List.length_drop, HN.out]
            have HD := Lib.hid (ih (l.drop q) wr (by rw [hlq]; omega))
            have hrl0 : Rsp.rd d (l.drop q).length (l.drop q) = Rsp.rd d n (l.drop q) := (Rsp.rd_L d n (l.drop q) (by rw [hlq]; omega)).symm
            rw [hrl0, hlq] at HD
            obtain ⟨Y, hY⟩ : ∃ Y, Rsp.rd d n (l.drop q) = Y := ⟨_, rfl⟩
            rw [hY] at HD
            obtain ⟨B, hBq⟩ : ∃ B, l.drop q = B := ⟨_, rfl⟩
            rw [hBq] at hex HD
            have HBQ := Lib.hid hBq
            have HY := Lib.hid hY
            have k1 : (0 : Int) < ((m' + 1 : Nat) : Int) := by omega
            have k2 : (q : Int) ≤ (n : Int) := by omega
            have k3 : ((m' + 1 : Nat) : Int) - 1 = (m' : Int) := by omega
            have HB1o := Lib.hid hB1
            have HB2o := Lib.hid hB2
            have HB3o := Lib.hid hB3
            have HBL := Lib.hid hbel
            clear hlq hrl0 hY hBq hB1 hB2 hB3 hbel
            rcases Y with _ | ⟨r, u⟩
            · have HR := Lib.hid (show X = none by rw [HX.out, HRP.out, Rsp.reps, HY.out]; rfl)
              go_wp2_with fail
              refine HD.out.mono ?_
              rintro e w1 ⟨rfl, hb1⟩
              have g1 := (HB1o.out.below hb1 HB1o.out.lt).alloc (.cells #[.int .i64 0, .string ⟨#[]⟩, .int .i64 0, .slice none 0 0] 27)
              have g2 := (HB2o.out.below hb1 HB2o.out.lt).alloc (.cells #[.int .i64 0, .string ⟨#[]⟩, .int .i64 0, .slice none 0 0] 27)
              have x1 := g1.x4
              have x2 := g2.x4
              have z0 := g1.frozen 0
              have z1 := g1.frozen 1
              have z2 := g1.frozen 2
              have z3 := g1.frozen 3
              have HBF := Lib.hid ((HBL.out.trans (hb1.mono HBL.out.size)).alloc (Nat.le_trans HBL.out.size hb1.size) (.cells #[.int .i64 0, .string ⟨#[]⟩, .int .i64 0, .slice none 0 0] 27))
              have hsz1 : G + 1 ≤ w1.heap.size := Nat.le_trans hsz hb1.size
              clear hb1
              go_wp2_with fail
              refine bodyPost_ret (ret_cell3 rfl _ _ w.heap.size _ _ _ _ _ rfl (g1.put4 _ _ _ _)) rfl ?_
              rw [HR.out]
              exact ⟨rfl, put4_below HBF.out _ (Nat.le_refl _) _ _ _ _⟩
            · have hdr := Rsp.rd_drop HY.out
              rw [HN.out] at hdr
              have hsf := Rsp.rd_suf d HY.out
              rw [List.length_drop, HN.out] at hsf
              obtain ⟨q', hq'⟩ : ∃ q', n - u.length = q' := ⟨_, rfl⟩
              rw [hq'] at hdr
              obtain ⟨K1, hK1⟩ : ∃ K, n - q - u.length = K := ⟨_, rfl⟩
              have k4 : (q : Int) + (K1 : Int) = (q' : Int) := by omega
              have HRP2 := Lib.hid (show Rsp.reps (Rsp.rd d n) k (l.drop p) = (Rsp.reps (Rsp.rd d n) m' (l.drop q')).map (fun z => ((acc ++ [r]) ++ z.1, z.2)) by
                rw [HRP.out, Rsp.reps, HY.out, ← hdr]
                simp only
                cases Rsp.reps (Rsp.rd d n) m' u <;> simp)
              have hq2 : q' ≤ n := by omega
              have HD2 : Hid (Calls Tryd.prog 30 #[.string (bs B), .int .i64 (d : Nat)] wr fun e w' => (∃ E f, e = .returned (.tuple #[.agg #[.int .i64 r.k, sv r.s, .int .i64 r.n, .slice E r.l.length f], .int .i64 (K1 : Nat), .bool true]) ∧ RV w' (New wr w') r [.int .i64 r.k, sv r.s, .int .i64 r.n, .slice E r.l.length f]) ∧ Below wr.heap.size wr w') := Lib.hid (by have h := HD.out; unfold RD3 at h; simp only [hK1] at h; exact h)
              clear hdr hsf hq' hK1 HD
              go_wp2_with fail
              refine HD2.out.mono ?_
              rintro e w1 ⟨⟨E2, f2, rfl, hv⟩, hbx⟩
              have hsz1 : G + 1 ≤ w1.heap.size := Nat.le_trans hsz hbx.size
              have g3 := ((HB3o.out.below hbx HB3o.out.lt).alloc (.cells #[.int .i64 r.k, sv r.s, .int .i64 r.n, .slice E2 r.l.length f2] 27))
              have c3 := g3.cell 3
              have x13 := (Blk.new w1 27 #[.int .i64 r.k, sv r.s, .int .i64 r.n, .slice E2 r.l.length f2]).x4
              have HG3 := Lib.hid (g3.alloc (.cells #[.int .i64 r.k, sv r.s, .int .i64 r.n, .slice E2 r.l.length f2] 27))
              have hlit : Own ((w1.alloc (.cells #[.int .i64 r.k, sv r.s, .int .i64 r.n, .slice E2 r.l.length f2] 27)).alloc (.cells #[.int .i64 r.k, sv r.s, .int .i64 r.n, .slice E2 r.l.length f2] 27)) (G + 1) 27 4 (.slice (some ⟨w1.heap.size + 1, 0, none⟩) 1 1) 1 [.int .i64 r.k, sv r.s, .int .i64 r.n, .slice E2 r.l.length f2] := by
                have := Own.lit (base := G + 1) (e := 27) (size := 4) (w1.alloc (.cells #[.int .i64 r.k, sv r.s, .int .i64 r.n, .slice E2 r.l.length f2] 27)) #[.int .i64 r.k, sv r.s, .int .i64 r.n, .slice E2 r.l.length f2] 1 (by rw [World.alloc_size]; omega) (by decide) rfl
                rwa [World.alloc_size] at this
              have hone : ∀ v ∈ ([.int .i64 r.k, sv r.s, .int .i64 r.n, .slice E2 r.l.length f2] : List Value), v.oneCell' = true := by intro v hv; simp at hv; rcases hv with rfl | rfl | rfl | rfl <;> rfl
              have HSRC := Lib.hid (Src.own (P := Tryd.prog) (u := 25) (e' := 27) hlit Tryd.underlying25 hone (by decide))
              have HOW := Lib.hid (((hown.below_ hbx).alloc (.cells #[.int .i64 r.k, sv r.s, .int .i64 r.n, .slice E2 r.l.length f2] 27)).alloc (.cells #[.int .i64 r.k, sv r.s, .int .i64 r.n, .slice E2 r.l.length f2] 27))
              have hgo : ∀ kk, (Value.slice Av i cv).ownBlock = some kk → G + 1 ≤ kk := fun kk hkk => (hown.lt kk hkk).1
              have HOWN := Lib.hid hown
              have HRL := Lib.hid hrl
              have HV := Lib.hid hv
              have HBX := Lib.hid hbx
              clear hlit hone hown hrl hv hbx g3
              go_wp2_with (at_builtin
                           refine wpList_append_Own _ rfl (.tmp 112) (.tmp 114) _ _ rfl (G + 1) 27 i0 _ 4 56 Tryd.underlying25 hi hz0 hz1 hz2 rfl (.slice Av i cv) i xs1 rfl HOW.out _ 1 [.int .i64 r.k, sv r.s, .int .i64 r.n, .slice E2 r.l.length f2] rfl HSRC.out (by unfold maxLen; omega) (by omega) (by rw [World.alloc_size, World.alloc_size]; omega) ?_
                           intro v4 w4 hO4 hg4 hat
                           obtain ⟨A4, c4, rfl⟩ := hO4.sliceForm
                           have hB13 := HG3.out.grown hg4 (fun e => by have := hgo _ e.symm; omega)
                           have j3 := hB13.cell 3
                           have y3 := hB13.frozen 3)
              have hrl4 := RLs.push hsz HOWN.out HRL.out HBX.out HV.out (((Below.refl w1.heap.size w1).alloc (Nat.le_refl _) (.cells #[.int .i64 r.k, sv r.s, .int .i64 r.n, .slice E2 r.l.length f2] 27)).alloc (by simp) (.cells #[.int .i64 r.k, sv r.s, .int .i64 r.n, .slice E2 r.l.length f2] 27)) hg4 hat
              have hO5 : OR (w4.setCell ⟨G, 3, none⟩ (.slice A4 (i + 1) c4)) (G + 1) (.slice A4 (i + 1) c4) (acc ++ [r]) := by
                have h4 : OR w4 (G + 1) (.slice A4 (i + 1) c4) (acc ++ [r]) := ⟨xs1 ++ [.int .i64 r.k, sv r.s, .int .i64 r.n, .slice E2 r.l.length f2], by rw [List.length_append, HIL.out]; exact hO4, hrl4⟩
                exact h4.far (by omega) 3 _
              have hB15 : Blk (w4.setCell ⟨G, 3, none⟩ (.slice A4 (i + 1) c4)) w.heap.size 27 #[.int .i64 0, .string ⟨#[]⟩, .int .i64 0, .slice none 0 0] := ((((HB1o.out.below HBX.out HB1o.out.lt).alloc _).alloc _).grown hg4 (fun e => by have := hgo _ e.symm; omega)).far (by simp; omega) _
              have hB25 : Blk (w4.setCell ⟨G, 3, none⟩ (.slice A4 (i + 1) c4)) (w.heap.size + 1) 27 #[.int .i64 0, .string ⟨#[]⟩, .int .i64 0, .slice none 0 0] := ((((HB2o.out.below HBX.out HB2o.out.lt).alloc _).alloc _).grown hg4 (fun e => by have := hgo _ e.symm; omega)).far (by simp; omega) _
              have hB35 : Blk (w4.setCell ⟨G, 3, none⟩ (.slice A4 (i + 1) c4)) G 27 #[.int .i64 7, .string ⟨#[]⟩, .int .i64 0, .slice A4 (i + 1) c4] := hB13.set_ 3 _
              have hbf : Below w.heap.size w (w4.setCell ⟨G, 3, none⟩ (.slice A4 (i + 1) c4)) :=
                below_set ((((HBL.out.trans (HBX.out.mono HBL.out.size)).alloc (Nat.le_trans HBL.out.size HBX.out.size) _).alloc (by rw [World.alloc_size]; have := HBL.out.size; have := HBX.out.size; omega) _).grown hg4 (by rw [World.alloc_size, World.alloc_size]; have := HBL.out.size; have := HBX.out.size; omega) (fun k hk => by have := hgo k hk; omega)) (by omega) 3 _
              have hszf : G + 1 ≤ (w4.setCell ⟨G, 3, none⟩ (.slice A4 (i + 1) c4)).heap.size := by
                rw [World.setCell_size]; have := hg4.size; rw [World.alloc_size, World.alloc_size] at this; omega
              have hal : (acc ++ [r]).length + m' = k := by rw [List.length_append, HIL.out]; simp; omega
              have HH := Lib.hid (And.intro hB15 (And.intro hB25 (And.intro hB35 (And.intro hO5 (And.intro hbf hszf)))))
              clear hB15 hB25 hB35 hO5 hbf hszf hrl4
              go_wp2_with fail
              go_roundw
              case rel =>
                first
                  | exact ⟨m', q', acc ++ [r], _, by first | rfl | go_num, by first | rfl | go_num, hq2, hal, HH.out.1, HH.out.2.1, HH.out.2.2.1, HH.out.2.2.2.1, HRP2, HH.out.2.2.2.2.1, HH.out.2.2.2.2.2⟩
                  | ((repeat apply Exists.intro); exact ⟨⟨m', q', acc ++ [r], _, by first | rfl | go_num, by first | rfl | go_num, hq2, hal, HH.out.1, HH.out.2.1, HH.out.2.2.1, HH.out.2.2.2.1, HRP2, HH.out.2.2.2.2.1, HH.out.2.2.2.2.2⟩, rfl⟩)
              case measure => simp [intOf]

set_option maxRecDepth 100000 in
set_option maxHeartbeats 16000000 in
theorem rcnt_many37 (d : Nat) (hd : d ≤ 1000) (ih : RDecAt d) (l b : List UInt8) (p : Nat) (nn : Int) (w : World) (hc : l = 37 :: b) (hl : l.length ≤ 1048576) (hp : p ≤ l.length) (hf : fits nn) :
    Calls Tryd.prog 42 #[.string (bs l), .int .i64 nn, .int .i64 (p : Nat), .int .i64 ((d + 1 : Nat) : Int)] w fun e w' => RD3 w w' e l.length (Rsp.cnt (Rsp.rd d l.length) l.length 37 nn (l.drop p)) ∧ Below w.heap.size w w' := by
  obtain ⟨i0, hi, hz0, hz1, hz2⟩ := info_parts repinfo
  obtain ⟨n, hn⟩ : ∃ n, l.length = n := ⟨_, rfl⟩
  have HN := Lib.hid hn
  have hsz : (bs l).size = n := by rw [bs_size]; exact hn
  have h0 : 0 < n := by rw [← hn, hc]; simp
  have hz : 0 < (bs l).size := by rw [hsz]; exact h0
  have hg0 : (bs l)[0]'hz = 37 := by rw [bs_get18 l 0 hz (by rw [hn]; exact h0)]; simp [hc]
  rw [hn] at hl hp ⊢
  have HZ := Lib.hid (zz_blk w #[.int .i64 0, .string ⟨#[]⟩, .int .i64 0, .slice none 0 0])
  have HB := Lib.hid (zz_below w #[.int .i64 0, .string ⟨#[]⟩, .int .i64 0, .slice none 0 0])
  obtain ⟨X, hX⟩ : ∃ X, Rsp.cnt (Rsp.rd d n) n 37 nn (l.drop p) = X := ⟨_, rfl⟩
  rw [hX]
  obtain ⟨D, hD⟩ : ∃ D, d + 1 = D := ⟨_, rfl⟩
  rw [hD]
  have HXX := Lib.hid hX
  have HTL := Lib.hid (show (l.drop p).length = n - p by rw [List.length_drop, hn])
  have i1 : (0 : Int) < (n : Int) := by omega
  have HF := Lib.hid hf
  have hf1 : -9223372036854775808 ≤ nn := hf.1
  have hf2 : nn ≤ 9223372036854775807 := hf.2
  have hpI : (p : Int) ≤ (n : Int) := by omega
  have hnI : (n : Int) ≤ 1048576 := by omega
  have e9 : (D : Int) - 1 = (d : Int) := by omega
  have hdI : (d : Int) ≤ 1000 := by omega
  have hdI0 : (0 : Int) ≤ (d : Int) := by omega
  clear hc hX hn hf hD
  by_cases h1 : nn = -1
  · subst h1
    have HR := Lib.hid (show X = none by rw [← HXX.out]; rfl)
    go_enter Tryd.func42, Tryd.ntmps42
    go_wp2_with fail
    refine bodyPost_ret (ret_cell3 rfl _ _ w.heap.size _ _ _ _ _ rfl HZ.out) rfl ?_
    rw [HR.out]
    exact ⟨rfl, HB.out⟩
  · have HC := Lib.hid (show X = Rsp.many 8 (Rsp.rd d n) n nn (2 * nn.toNat) (l.drop p) by rw [← HXX.out]; unfold Rsp.cnt; rw [if_neg (by decide), if_neg (by decide), if_neg (by decide), if_pos rfl])
    have q1 : (nn == -1) = false := by simpa using h1
    by_cases h2 : nn < 0
    · have HR := Lib.hid (show X = none by rw [HC.out]; unfold Rsp.many; rw [if_pos (.inl h2)])
      clear h1
      go_enter Tryd.func42, Tryd.ntmps42
      go_wp2_with fail
      refine bodyPost_ret (ret_cell3 rfl _ _ w.heap.size _ _ _ _ _ rfl HZ.out) rfl ?_
      rw [HR.out]
      exact ⟨rfl, HB.out⟩
    · by_cases h3 : (n : Int) < nn
      · have HR := Lib.hid (show X = none by rw [HC.out]; unfold Rsp.many; rw [if_pos (.inr h3)])
        clear h1
        go_enter Tryd.func42, Tryd.ntmps42
        go_wp2_with fail
        refine bodyPost_ret (ret_cell3 rfl _ _ w.heap.size _ _ _ _ _ rfl HZ.out) rfl ?_
        rw [HR.out]
        exact ⟨rfl, HB.out⟩
      · obtain ⟨k, rfl⟩ : ∃ k : Nat, nn = (k : Int) := ⟨nn.toNat, by omega⟩
        have hkn : k ≤ n := by omega
        obtain ⟨M, hM⟩ : ∃ M, 2 * k = M := ⟨_, rfl⟩
        have hMn : M ≤ 2097152 := by omega
        have HX := Lib.hid (show X = (Rsp.reps (Rsp.rd d n) M (l.drop p)).map (fun z => (.mk 8 [] 0 z.1, z.2)) by
          rw [HC.out]; unfold Rsp.many; rw [if_neg (by omega), Int.toNat_natCast, hM])
        have em : (2 : Int) * (k : Int) = (M : Int) := by omega
        have j1 : ¬ (n : Int) < (k : Int) := by omega
        have j2 : (k : Int) ≤ (n : Int) := by omega
        have HX0 := Lib.hid (show Below w.heap.size w (((w.alloc (.cells #[.int .i64 0, .string ⟨#[]⟩, .int .i64 0, .slice none 0 0] 27)).alloc (.cells #[.int .i64 0, .string ⟨#[]⟩, .int .i64 0, .slice none 0 0] 27)).alloc (.cells #[.int .i64 8, .string ⟨#[]⟩, .int .i64 0, .slice none 0 0] 27)) from (((Below.refl _ _).alloc (Nat.le_refl _) _).alloc (by simp) _).alloc (by simp; omega) _)
        have HX1 := Lib.hid (show Blk (((w.alloc (.cells #[.int .i64 0, .string ⟨#[]⟩, .int .i64 0, .slice none 0 0] 27)).alloc (.cells #[.int .i64 0, .string ⟨#[]⟩, .int .i64 0, .slice none 0 0] 27)).alloc (.cells #[.int .i64 8, .string ⟨#[]⟩, .int .i64 0, .slice none 0 0] 27)) w.heap.size 27 #[.int .i64 0, .string ⟨#[]⟩, .int .i64 0, .slice none 0 0] from ((Blk.new w _ _).alloc _).alloc _)
        have hx2 : Blk (((w.alloc (.cells #[.int .i64 0, .string ⟨#[]⟩, .int .i64 0, .slice none 0 0] 27)).alloc (.cells #[.int .i64 0, .string ⟨#[]⟩, .int .i64 0, .slice none 0 0] 27)).alloc (.cells #[.int .i64 8, .string ⟨#[]⟩, .int .i64 0, .slice none 0 0] 27)) (w.heap.size + 1) 27 #[.int .i64 0, .string ⟨#[]⟩, .int .i64 0, .slice none 0 0] := by
          have := Blk.new (w.alloc (.cells #[.int .i64 0, .string ⟨#[]⟩, .int .i64 0, .slice none 0 0] 27)) 27 #[.int .i64 0, .string ⟨#[]⟩, .int .i64 0, .slice none 0 0]
          rw [World.alloc_size] at this
          exact this.alloc _
        have hx3 : Blk (((w.alloc (.cells #[.int .i64 0, .string ⟨#[]⟩, .int .i64 0, .slice none 0 0] 27)).alloc (.cells #[.int .i64 0, .string ⟨#[]⟩, .int .i64 0, .slice none 0 0] 27)).alloc (.cells #[.int .i64 8, .string ⟨#[]⟩, .int .i64 0, .slice none 0 0] 27)) (w.heap.size + 2) 27 #[.int .i64 8, .string ⟨#[]⟩, .int .i64 0, .slice none 0 0] := by
          have := Blk.new ((w.alloc (.cells #[.int .i64 0, .string ⟨#[]⟩, .int .i64 0, .slice none 0 0] 27)).alloc (.cells #[.int .i64 0, .string ⟨#[]⟩, .int .i64 0, .slice none 0 0] 27)) 27 #[.int .i64 8, .string ⟨#[]⟩, .int .i64 0, .slice none 0 0]
          rw [World.alloc_size, World.alloc_size] at this
          exact this
        have HX2 := Lib.hid hx2
        have HX3 := Lib.hid hx3
        have HZS := Lib.hid (show ((((w.alloc (.cells #[.int .i64 0, .string ⟨#[]⟩, .int .i64 0, .slice none 0 0] 27)).alloc (.cells #[.int .i64 0, .string ⟨#[]⟩, .int .i64 0, .slice none 0 0] 27)).alloc (.cells #[.int .i64 8, .string ⟨#[]⟩, .int .i64 0, .slice none 0 0] 27))).heap.size = w.heap.size + 3 by rw [World.alloc_size, World.alloc_size, World.alloc_size])
        clear h1 h2 h3 hx2 hx3 hM
        go_enter Tryd.func42, Tryd.ntmps42
        go_wp2_with fail
        obtain ⟨G, hGe⟩ : ∃ G, w.heap.size + 2 = G := ⟨_, rfl⟩
        have hG : w.heap.size + 2 ≤ G := by omega
        rw [hGe] at HX3
        have HZ2 := Lib.hid (HZS.out.trans (show w.heap.size + 3 = G + 1 by omega))
        try rw [hGe]
        clear hGe
        go_loopw [1, 2] (fun x y wr => ∃ (m q : Nat) (acc : List Rep) (v : Value), x = .int .i64 (m : Nat) ∧ y = .int .i64 (q : Nat) ∧ q ≤ n ∧ acc.length + m = M ∧ Blk wr w.heap.size 27 #[.int .i64 0, .string ⟨#[]⟩, .int .i64 0, .slice none 0 0] ∧ Blk wr (w.heap.size + 1) 27 #[.int .i64 0, .string ⟨#[]⟩, .int .i64 0, .slice none 0 0] ∧ Blk wr G 27 #[.int .i64 8, .string ⟨#[]⟩, .int .i64 0, v] ∧ OR wr (G + 1) v acc ∧ Hid (Rsp.reps (Rsp.rd d n) M (l.drop p) = (Rsp.reps (Rsp.rd d n) m (l.drop q)).map (fun z => (acc ++ z.1, z.2))) ∧ Below w.heap.size w wr ∧ G + 1 ≤ wr.heap.size) (fun x _ _ => (intOf x).toNat)
        case atStart => exact ⟨M, p, [], _, by first | rfl | (congr 1; omega), rfl, hp, by simp, HX1.out, HX2.out, HX3.out, OR.nil _ _, Lib.hid (by cases Rsp.reps (Rsp.rd d n) M (l.drop p) <;> simp), HX0.out, by rw [HZ2.out]; omega⟩
        case round =>
          clear em j1 j2
          obtain ⟨m, q, acc, v, rfl, rfl, hq, hacc, hB1, hB2, hB3, hO, HRP, hbel, hsz⟩ := hrel
          obtain ⟨i, hil⟩ : ∃ i, acc.length = i := ⟨_, rfl⟩
          have HIL := Lib.hid hil
          rw [hil] at hacc
          obtain ⟨xs1, hown, hrl⟩ := id hO
          rw [hil] at hown
          clear hil
          obtain ⟨Av, cv, rfl⟩ := hown.sliceForm
          have HOO := Lib.hid hO
          clear hO
          rcases Nat.eq_zero_or_pos m with rfl | hm
          · have HR := Lib.hid (show X = some (.mk 8 [] 0 acc, l.drop q) by rw [HX.out, HRP.out]; simp [Rsp.reps])
            have HT := Lib.hid (show n - (l.drop q).length = q by rw [List.length_drop, HN.out]; omega)
            have k1 : ¬ (0 : Int) < ((0 : Nat) : Int) := by omega
            have x2 := hB1.x4
            have z0 := hB1.frozen 0
            have z1 := hB1.frozen 1
            have z2 := hB1.frozen 2
            have z3 := hB1.frozen 3
            have x3 := hB3.x4
            have HBF := Lib.hid hbel
            have HO1 := Lib.hid hown
            clear hbel hown hrl
            go_wp2_with fail
            refine bodyPost_ret (ret_cell3 rfl _ _ w.heap.size _ _ _ _ _ rfl (hB1.put4 _ _ _ _)) rfl ?_
            rw [HR.out]
            have hOp := HOO.out.put4 (g := w.heap.size) (by omega) (.int .i64 8) (.string ⟨#[]⟩) (.int .i64 0) (.slice Av i cv)
            have hrv := OR.rv (k := 8) (n := 0) (s := []) (S := New w (put4 wr w.heap.size (.int .i64 8) (.string ⟨#[]⟩) (.int .i64 0) (.slice Av i cv))) hOp (by unfold fits; omega) (by unfold fits; omega) (Nat.zero_le _) HIL.out.symm (fun b h1 h2 => ⟨by omega, h2⟩)
            refine ⟨⟨Av, cv, ?_, hrv⟩, put4_below HBF.out _ (Nat.le_refl _) _ _ _ _⟩
            rw [HT.out]
            show Ending.returned (.tuple #[.agg #[.int .i64 8, .string ⟨#[]⟩, .int .i64 0, .slice Av i cv], .int .i64 (q : Nat), .bool true]) = Ending.returned (.tuple #[.agg #[.int .i64 8, .string ⟨#[]⟩, .int .i64 0, .slice Av acc.length cv], .int .i64 (q : Nat), .bool true])
            rw [HIL.out]
          · obtain ⟨m', rfl⟩ : ∃ m', m = m' + 1 := ⟨m - 1, by omega⟩
            have hex : (bs l).extract q n = bs (l.drop q) := by rw [bs_extract, bs_data, List.take_of_length_le (by rw [List.length_drop, HN.out]; omega)]
            have hlq : (l.drop q).length = n - q := by rw [List.length_drop, HN.out]
            have HD := Lib.hid (ih (l.drop q) wr (by rw [hlq]; omega))
            have hrl0 : Rsp.rd d (l.drop q).length (l.drop q) = Rsp.rd d n (l.drop q) := (Rsp.rd_L d n (l.drop q) (by rw [hlq]; omega)).symm
            rw [hrl0, hlq] at HD
            obtain ⟨Y, hY⟩ : ∃ Y, Rsp.rd d n (l.drop q) = Y := ⟨_, rfl⟩
            rw [hY] at HD
            obtain ⟨B, hBq⟩ : ∃ B, l.drop q = B := ⟨_, rfl⟩
            rw [hBq] at hex HD
            have HBQ := Lib.hid hBq
            have HY := Lib.hid hY
            have k1 : (0 : Int) < ((m' + 1 : Nat) : Int) := by omega
            have k2 : (q : Int) ≤ (n : Int) := by omega
            have k3 : ((m' + 1 : Nat) : Int) - 1 = (m' : Int) := by omega
            have HB1o := Lib.hid hB1
            have HB2o := Lib.hid hB2
            have HB3o := Lib.hid hB3
            have HBL := Lib.hid hbel
            clear hlq hrl0 hY hBq hB1 hB2 hB3 hbel
            rcases Y with _ | ⟨r, u⟩
            · have HR := Lib.hid (show X = none by rw [HX.out, HRP.out, Rsp.reps, HY.out]; rfl)
              go_wp2_with fail
              refine HD.out.mono ?_
              rintro e w1 ⟨rfl, hb1⟩
              have g1 := (HB1o.out.below hb1 HB1o.out.lt).alloc (.cells #[.int .i64 0, .string ⟨#[]⟩, .int .i64 0, .slice none 0 0] 27)
              have g2 := (HB2o.out.below hb1 HB2o.out.lt).alloc (.cells #[.int .i64 0, .string ⟨#[]⟩, .int .i64 0, .slice none 0 0] 27)
              have x1 := g1.x4
              have x2 := g2.x4
              have z0 := g1.frozen 0
              have z1 := g1.frozen 1
              have z2 := g1.frozen 2
              have z3 := g1.frozen 3
              have HBF := Lib.hid ((HBL.out.trans (hb1.mono HBL.out.size)).alloc (Nat.le_trans HBL.out.size hb1.size) (.cells #[.int .i64 0, .string ⟨#[]⟩, .int .i64 0, .slice none 0 0] 27))
              have hsz1 : G + 1 ≤ w1.heap.size := Nat.le_trans hsz hb1.size
              clear hb1
              go_wp2_with fail
              refine bodyPost_ret (ret_cell3 rfl _ _ w.heap.size _ _ _ _ _ rfl (g1.put4 _ _ _ _)) rfl ?_
              rw [HR.out]
              exact ⟨rfl, put4_below HBF.out _ (Nat.le_refl _) _ _ _ _⟩
            · have hdr := Rsp.rd_drop HY.out
              rw [HN.out] at hdr
              have hsf := Rsp.rd_suf d HY.out
              rw [List.length_drop, HN.out] at hsf
              obtain ⟨q', hq'⟩ : ∃ q', n - u.length = q' := ⟨_, rfl⟩
              rw [hq'] at hdr
              obtain ⟨K1, hK1⟩ : ∃ K, n - q - u.length = K := ⟨_, rfl⟩
              have k4 : (q : Int) + (K1 : Int) = (q' : Int) := by omega
              have HRP2 := Lib.hid (show Rsp.reps (Rsp.rd d n) M (l.drop p) = (Rsp.reps (Rsp.rd d n) m' (l.drop q')).map (fun z => ((acc ++ [r]) ++ z.1, z.2)) by
                rw [HRP.out, Rsp.reps, HY.out, ← hdr]
                simp only
                cases Rsp.reps (Rsp.rd d n) m' u <;> simp)
              have hq2 : q' ≤ n := by omega
              have HD2 : Hid (Calls Tryd.prog 30 #[.string (bs B), .int .i64 (d : Nat)] wr fun e w' => (∃ E f, e = .returned (.tuple #[.agg #[.int .i64 r.k, sv r.s, .int .i64 r.n, .slice E r.l.length f], .int .i64 (K1 : Nat), .bool true]) ∧ RV w' (New wr w') r [.int .i64 r.k, sv r.s, .int .i64 r.n, .slice E r.l.length f]) ∧ Below wr.heap.size wr w') := Lib.hid (by have h := HD.out; unfold RD3 at h; simp only [hK1] at h; exact h)
              clear hdr hsf hq' hK1 HD
              go_wp2_with fail
              refine HD2.out.mono ?_
              rintro e w1 ⟨⟨E2, f2, rfl, hv⟩, hbx⟩
              have hsz1 : G + 1 ≤ w1.heap.size := Nat.le_trans hsz hbx.size
              have g3 := ((HB3o.out.below hbx HB3o.out.lt).alloc (.cells #[.int .i64 r.k, sv r.s, .int .i64 r.n, .slice E2 r.l.length f2] 27))
              have c3 := g3.cell 3
              have x13 := (Blk.new w1 27 #[.int .i64 r.k, sv r.s, .int .i64 r.n, .slice E2 r.l.length f2]).x4
              have HG3 := Lib.hid (g3.alloc (.cells #[.int .i64 r.k, sv r.s, .int .i64 r.n, .slice E2 r.l.length f2] 27))
              have hlit : Own ((w1.alloc (.cells #[.int .i64 r.k, sv r.s, .int .i64 r.n, .slice E2 r.l.length f2] 27)).alloc (.cells #[.int .i64 r.k, sv r.s, .int .i64 r.n, .slice E2 r.l.length f2] 27)) (G + 1) 27 4 (.slice (some ⟨w1.heap.size + 1, 0, none⟩) 1 1) 1 [.int .i64 r.k, sv r.s, .int .i64 r.n, .slice E2 r.l.length f2] := by
                have := Own.lit (base := G + 1) (e := 27) (size := 4) (w1.alloc (.cells #[.int .i64 r.k, sv r.s, .int .i64 r.n, .slice E2 r.l.length f2] 27)) #[.int .i64 r.k, sv r.s, .int .i64 r.n, .slice E2 r.l.length f2] 1 (by rw [World.alloc_size]; omega) (by decide) rfl
                rwa [World.alloc_size] at this
              have hone : ∀ v ∈ ([.int .i64 r.k, sv r.s, .int .i64 r.n, .slice E2 r.l.length f2] : List Value), v.oneCell' = true := by intro v hv; simp at hv; rcases hv with rfl | rfl | rfl | rfl <;> rfl
              have HSRC := Lib.hid (Src.own (P := Tryd.prog) (u := 25) (e' := 27) hlit Tryd.underlying25 hone (by decide))
              have HOW := Lib.hid (((hown.below_ hbx).alloc (.cells #[.int .i64 r.k, sv r.s, .int .i64 r.n, .slice E2 r.l.length f2] 27)).alloc (.cells #[.int .i64 r.k, sv r.s, .int .i64 r.n, .slice E2 r.l.length f2] 27))
              have hgo : ∀ kk, (Value.slice Av i cv).ownBlock = some kk → G + 1 ≤ kk := fun kk hkk => (hown.lt kk hkk).1
              have HOWN := Lib.hid hown
              have HRL := Lib.hid hrl
              have HV := Lib.hid hv
              have HBX := Lib.hid hbx
              clear hlit hone hown hrl hv hbx g3
              go_wp2_with (at_builtin
                           refine wpList_append_Own _ rfl (.tmp 112) (.tmp 114) _ _ rfl (G + 1) 27 i0 _ 4 56 Tryd.underlying25 hi hz0 hz1 hz2 rfl (.slice Av i cv) i xs1 rfl HOW.out _ 1 [.int .i64 r.k, sv r.s, .int .i64 r.n, .slice E2 r.l.length f2] rfl HSRC.out (by unfold maxLen; omega) (by omega) (by rw [World.alloc_size, World.alloc_size]; omega) ?_
                           intro v4 w4 hO4 hg4 hat
                           obtain ⟨A4, c4, rfl⟩ := hO4.sliceForm
                           have hB13 := HG3.out.grown hg4 (fun e => by have := hgo _ e.symm; omega)
                           have j3 := hB13.cell 3
                           have y3 := hB13.frozen 3)
              have hrl4 := RLs.push hsz HOWN.out HRL.out HBX.out HV.out (((Below.refl w1.heap.size w1).alloc (Nat.le_refl _) (.cells #[.int .i64 r.k, sv r.s, .int .i64 r.n, .slice E2 r.l.length f2] 27)).alloc (by simp) (.cells #[.int .i64 r.k, sv r.s, .int .i64 r.n, .slice E2 r.l.length f2] 27)) hg4 hat
              have hO5 : OR (w4.setCell ⟨G, 3, none⟩ (.slice A4 (i + 1) c4)) (G + 1) (.slice A4 (i + 1) c4) (acc ++ [r]) := by
                have h4 : OR w4 (G + 1) (.slice A4 (i + 1) c4) (acc ++ [r]) := ⟨xs1 ++ [.int .i64 r.k, sv r.s, .int .i64 r.n, .slice E2 r.l.length f2], by rw [List.length_append, HIL.out]; exact hO4, hrl4⟩
                exact h4.far (by omega) 3 _
              have hB15 : Blk (w4.setCell ⟨G, 3, none⟩ (.slice A4 (i + 1) c4)) w.heap.size 27 #[.int .i64 0, .string ⟨#[]⟩, .int .i64 0, .slice none 0 0] := ((((HB1o.out.below HBX.out HB1o.out.lt).alloc _).alloc _).grown hg4 (fun e => by have := hgo _ e.symm; omega)).far (by simp; omega) _
              have hB25 : Blk (w4.setCell ⟨G, 3, none⟩ (.slice A4 (i + 1) c4)) (w.heap.size + 1) 27 #[.int .i64 0, .string ⟨#[]⟩, .int .i64 0, .slice none 0 0] := ((((HB2o.out.below HBX.out HB2o.out.lt).alloc _).alloc _).grown hg4 (fun e => by have := hgo _ e.symm; omega)).far (by simp; omega) _
              have hB35 : Blk (w4.setCell ⟨G, 3, none⟩ (.slice A4 (i + 1) c4)) G 27 #[.int .i64 8, .string ⟨#[]⟩, .int .i64 0, .slice A4 (i + 1) c4] := hB13.set_ 3 _
              have hbf : Below w.heap.size w (w4.setCell ⟨G, 3, none⟩ (.slice A4 (i + 1) c4)) :=
                below_set ((((HBL.out.trans (HBX.out.mono HBL.out.size)).alloc (Nat.le_trans HBL.out.size HBX.out.size) _).alloc (by rw [World.alloc_size]; have := HBL.out.size; have := HBX.out.size; omega) _).grown hg4 (by rw [World.alloc_size, World.alloc_size]; have := HBL.out.size; have := HBX.out.size; omega) (fun k hk => by have := hgo k hk; omega)) (by omega) 3 _
              have hszf : G + 1 ≤ (w4.setCell ⟨G, 3, none⟩ (.slice A4 (i + 1) c4)).heap.size := by
                rw [World.setCell_size]; have := hg4.size; rw [World.alloc_size, World.alloc_size] at this; omega
              have hal : (acc ++ [r]).length + m' = M := by rw [List.length_append, HIL.out]; simp; omega
              have HH := Lib.hid (And.intro hB15 (And.intro hB25 (And.intro hB35 (And.intro hO5 (And.intro hbf hszf)))))
              clear hB15 hB25 hB35 hO5 hbf hszf hrl4
              go_wp2_with fail
              go_roundw
              case rel =>
                first
                  | exact ⟨m', q', acc ++ [r], _, by first | rfl | go_num, by first | rfl | go_num, hq2, hal, HH.out.1, HH.out.2.1, HH.out.2.2.1, HH.out.2.2.2.1, HRP2, HH.out.2.2.2.2.1, HH.out.2.2.2.2.2⟩
                  | ((repeat apply Exists.intro); exact ⟨⟨m', q', acc ++ [r], _, by first | rfl | go_num, by first | rfl | go_num, hq2, hal, HH.out.1, HH.out.2.1, HH.out.2.2.1, HH.out.2.2.2.1, HRP2, HH.out.2.2.2.2.1, HH.out.2.2.2.2.2⟩, rfl⟩)
              case measure => simp [intOf]

set_option maxRecDepth 100000 in
set_option maxHeartbeats 16000000 in
theorem rcnt_many126 (d : Nat) (hd : d ≤ 1000) (ih : RDecAt d) (l b : List UInt8) (p : Nat) (nn : Int) (w : World) (hc : l = 126 :: b) (hl : l.length ≤ 1048576) (hp : p ≤ l.length) (hf : fits nn) :
    Calls Tryd.prog 42 #[.string (bs l), .int .i64 nn, .int .i64 (p : Nat), .int .i64 ((d + 1 : Nat) : Int)] w fun e w' => RD3 w w' e l.length (Rsp.cnt (Rsp.rd d l.length) l.length 126 nn (l.drop p)) ∧ Below w.heap.size w w' := by
  obtain ⟨i0, hi, hz0, hz1, hz2⟩ := info_parts repinfo
  obtain ⟨n, hn⟩ : ∃ n, l.length = n := ⟨_, rfl⟩
  have HN := Lib.hid hn
  have hsz : (bs l).size = n := by rw [bs_size]; exact hn
  have h0 : 0 < n := by rw [← hn, hc]; simp
  have hz : 0 < (bs l).size := by rw [hsz]; exact h0
  have hg0 : (bs l)[0]'hz = 126 := by rw [bs_get18 l 0 hz (by rw [hn]; exact h0)]; simp [hc]
  rw [hn] at hl hp ⊢
  have HZ := Lib.hid (zz_blk w #[.int .i64 0, .string ⟨#[]⟩, .int .i64 0, .slice none 0 0])
  have HB := Lib.hid (zz_below w #[.int .i64 0, .string ⟨#[]⟩, .int .i64 0, .slice none 0 0])
  obtain ⟨X, hX⟩ : ∃ X, Rsp.cnt (Rsp.rd d n) n 126 nn (l.drop p) = X := ⟨_, rfl⟩
  rw [hX]
  obtain ⟨D, hD⟩ : ∃ D, d + 1 = D := ⟨_, rfl⟩
  rw [hD]
  have HXX := Lib.hid hX
  have HTL := Lib.hid (show (l.drop p).length = n - p by rw [List.length_drop, hn])
  have i1 : (0 : Int) < (n : Int) := by omega
  have HF := Lib.hid hf
  have hf1 : -9223372036854775808 ≤ nn := hf.1
  have hf2 : nn ≤ 9223372036854775807 := hf.2
  have hpI : (p : Int) ≤ (n : Int) := by omega
  have hnI : (n : Int) ≤ 1048576 := by omega
  have e9 : (D : Int) - 1 = (d : Int) := by omega
  have hdI : (d : Int) ≤ 1000 := by omega
  have hdI0 : (0 : Int) ≤ (d : Int) := by omega
  clear hc hX hn hf hD
  by_cases h1 : nn = -1
  · subst h1
    have HR := Lib.hid (show X = none by rw [← HXX.out]; rfl)
    go_enter Tryd.func42, Tryd.ntmps42
    go_wp2_with fail
    refine bodyPost_ret (ret_cell3 rfl _ _ w.heap.size _ _ _ _ _ rfl HZ.out) rfl ?_
    rw [HR.out]
    exact ⟨rfl, HB.out⟩
  · have HC := Lib.hid (show X = Rsp.many 9 (Rsp.rd d n) n nn nn.toNat (l.drop p) by rw [← HXX.out]; unfold Rsp.cnt; rw [if_neg (by decide), if_neg (by decide), if_neg (by decide), if_neg (by decide), if_pos rfl])
    have q1 : (nn == -1) = false := by simpa using h1
    by_cases h2 : nn < 0
    · have HR := Lib.hid (show X = none by rw [HC.out]; unfold Rsp.many; rw [if_pos (.inl h2)])
      clear h1
      go_enter Tryd.func42, Tryd.ntmps42
      go_wp2_with fail
      refine bodyPost_ret (ret_cell3 rfl _ _ w.heap.size _ _ _ _ _ rfl HZ.out) rfl ?_
      rw [HR.out]
      exact ⟨rfl, HB.out⟩
    · by_cases h3 : (n : Int) < nn
      · have HR := Lib.hid (show X = none by rw [HC.out]; unfold Rsp.many; rw [if_pos (.inr h3)])
        clear h1
        go_enter Tryd.func42, Tryd.ntmps42
        go_wp2_with fail
        refine bodyPost_ret (ret_cell3 rfl _ _ w.heap.size _ _ _ _ _ rfl HZ.out) rfl ?_
        rw [HR.out]
        exact ⟨rfl, HB.out⟩
      · obtain ⟨k, rfl⟩ : ∃ k : Nat, nn = (k : Int) := ⟨nn.toNat, by omega⟩
        have hkn : k ≤ n := by omega
        obtain ⟨M, hM⟩ : ∃ M, k = M := ⟨_, rfl⟩
        subst hM
        have hM : k = k := rfl
        have hMn : k ≤ 2097152 := by omega
        have HX := Lib.hid (show X = (Rsp.reps (Rsp.rd d n) k (l.drop p)).map (fun z => (.mk 9 [] 0 z.1, z.2)) by
          rw [HC.out]; unfold Rsp.many; rw [if_neg (by omega), Int.toNat_natCast, hM])
        have em : (0 : Int) ≤ (k : Int) := by omega
        have j1 : ¬ (n : Int) < (k : Int) := by omega
        have j2 : (k : Int) ≤ (n : Int) := by omega
        have HX0 := Lib.hid (show Below w.heap.size w (((w.alloc (.cells #[.int .i64 0, .string ⟨#[]⟩, .int .i64 0, .slice none 0 0] 27)).alloc (.cells #[.int .i64 0, .string ⟨#[]⟩, .int .i64 0, .slice none 0 0] 27)).alloc (.cells #[.int .i64 9, .string ⟨#[]⟩, .int .i64 0, .slice none 0 0] 27)) from (((Below.refl _ _).alloc (Nat.le_refl _) _).alloc (by simp) _).alloc (by simp; omega) _)
        have HX1 := Lib.hid (show Blk (((w.alloc (.cells #[.int .i64 0, .string ⟨#[]⟩, .int .i64 0, .slice none 0 0] 27)).alloc (.cells #[.int .i64 0, .string ⟨#[]⟩, .int .i64 0, .slice none 0 0] 27)).alloc (.cells #[.int .i64 9, .string ⟨#[]⟩, .int .i64 0, .slice none 0 0] 27)) w.heap.size 27 #[.int .i64 0, .string ⟨#[]⟩, .int .i64 0, .slice none 0 0] from ((Blk.new w _ _).alloc _).alloc _)
        have hx2 : Blk (((w.alloc (.cells #[.int .i64 0, .string ⟨#[]⟩, .int .i64 0, .slice none 0 0] 27)).alloc (.cells #[.int .i64 0, .string ⟨#[]⟩, .int .i64 0, .slice none 0 0] 27)).alloc (.cells #[.int .i64 9, .string ⟨#[]⟩, .int .i64 0, .slice none 0 0] 27)) (w.heap.size + 1) 27 #[.int .i64 0, .string ⟨#[]⟩, .int .i64 0, .slice none 0 0] := by
          have := Blk.new (w.alloc (.cells #[.int .i64 0, .string ⟨#[]⟩, .int .i64 0, .slice none 0 0] 27)) 27 #[.int .i64 0, .string ⟨#[]⟩, .int .i64 0, .slice none 0 0]
          rw [World.alloc_size] at this
          exact this.alloc _
        have hx3 : Blk (((w.alloc (.cells #[.int .i64 0, .string ⟨#[]⟩, .int .i64 0, .slice none 0 0] 27)).alloc (.cells #[.int .i64 0, .string ⟨#[]⟩, .int .i64 0, .slice none 0 0] 27)).alloc (.cells #[.int .i64 9, .string ⟨#[]⟩, .int .i64 0, .slice none 0 0] 27)) (w.heap.size + 2) 27 #[.int .i64 9, .string ⟨#[]⟩, .int .i64 0, .slice none 0 0] := by
          have := Blk.new ((w.alloc (.cells #[.int .i64 0, .string ⟨#[]⟩, .int .i64 0, .slice none 0 0] 27)).alloc (.cells #[.int .i64 0, .string ⟨#[]⟩, .int .i64 0, .slice none 0 0] 27)) 27 #[.int .i64 9, .string ⟨#[]⟩, .int .i64 0, .slice none 0 0]
          rw [World.alloc_size, World.alloc_size] at this
          exact this
        have HX2 := Lib.hid hx2
        have HX3 := Lib.hid hx3
        have HZS := Lib.hid (show ((((w.alloc (.cells #[.int .i64 0, .string ⟨#[]⟩, .int .i64 0, .slice none 0 0] 27)).alloc (.cells #[.int .i64 0, .string ⟨#[]⟩, .int .i64 0, .slice none 0 0] 27)).alloc (.cells #[.int .i64 9, .string ⟨#[]⟩, .int .i64 0, .slice none 0 0] 27))).heap.size = w.heap.size + 3 by rw [World.alloc_size, World.alloc_size, World.alloc_size])
        clear h1 h2 h3 hx2 hx3 hM
        go_enter Tryd.func42, Tryd.ntmps42
        go_wp2_with fail
        obtain ⟨G, hGe⟩ : ∃ G, w.heap.size + 2 = G := ⟨_, rfl⟩
        have hG : w.heap.size + 2 ≤ G := by omega
        rw [hGe] at HX3
        have HZ2 := Lib.hid (HZS.out.trans (show w.heap.size + 3 = G + 1 by omega))
        try rw [hGe]
        clear hGe
        go_loopw [1, 2] (fun x y wr => ∃ (m q : Nat) (acc : List Rep) (v : Value), x = .int .i64 (m : Nat) ∧ y = .int .i64 (q : Nat) ∧ q ≤ n ∧ acc.length + m = k ∧ Blk wr w.heap.size 27 #[.int .i64 0, .string ⟨#[]⟩, .int .i64 0, .slice none 0 0] ∧ Blk wr (w.heap.size + 1) 27 #[.int .i64 0, .string ⟨#[]⟩, .int .i64 0, .slice none 0 0] ∧ Blk wr G 27 #[.int .i64 9, .string ⟨#[]⟩, .int .i64 0, v] ∧ OR wr (G + 1) v acc ∧ Hid (Rsp.reps (Rsp.rd d n) k (l.drop p) = (Rsp.reps (Rsp.rd d n) m (l.drop q)).map (fun z => (acc ++ z.1, z.2))) ∧ Below w.heap.size w wr ∧ G + 1 ≤ wr.heap.size) (fun x _ _ => (intOf x).toNat)
        case atStart => exact ⟨k, p, [], _, by first | rfl | (congr 1; omega), rfl, hp, by simp, HX1.out, HX2.out, HX3.out, OR.nil _ _, Lib.hid (by cases Rsp.reps (Rsp.rd d n) k (l.drop p) <;> simp), HX0.out, by rw [HZ2.out]; omega⟩
        case round =>
          clear em j1 j2
          obtain ⟨m, q, acc, v, rfl, rfl, hq, hacc, hB1, hB2, hB3, hO, HRP, hbel, hsz⟩ := hrel
          obtain ⟨i, hil⟩ : ∃ i, acc.length = i := ⟨_, rfl⟩
          have HIL := Lib.hid hil
          rw [hil] at hacc
          obtain ⟨xs1, hown, hrl⟩ := id hO
          rw [hil] at hown
          clear hil
          obtain ⟨Av, cv, rfl⟩ := hown.sliceForm
          have HOO := Lib.hid hO
          clear hO
          rcases Nat.eq_zero_or_pos m with rfl | hm
          · have HR := Lib.hid (show X = some (.mk 9 [] 0 acc, l.drop q) by rw [HX.out, HRP.out]; simp [Rsp.reps])
            have HT := Lib.hid (show n - (l.drop q).length = q by rw [List.length_drop, HN.out]; omega)
            have k1 : ¬ (0 : Int) < ((0 : Nat) : Int) := by omega
            have x2 := hB1.x4
            have z0 := hB1.frozen 0
            have z1 := hB1.frozen 1
            have z2 := hB1.frozen 2
            have z3 := hB1.frozen 3
            have x3 := hB3.x4
            have HBF := Lib.hid hbel
            have HO1 := Lib.hid hown
            clear hbel hown hrl
            go_wp2_with fail
            refine bodyPost_ret (ret_cell3 rfl _ _ w.heap.size _ _ _ _ _ rfl (hB1.put4 _ _ _ _)) rfl ?_
            rw [HR.out]
            have hOp := HOO.out.put4 (g := w.heap.size) (by omega) (.int .i64 9) (.string ⟨#[]⟩) (.int .i64 0) (.slice Av i cv)
            have hrv := OR.rv (k := 9) (n := 0) (s := []) (S := New w (put4 wr w.heap.size (.int .i64 9) (.string ⟨#[]⟩) (.int .i64 0) (.slice Av i cv))) hOp (by unfold fits; omega) (by unfold fits; omega) (Nat.zero_le _) HIL.out.symm (fun b h1 h2 => ⟨by omega, h2⟩)
            refine ⟨⟨Av, cv, ?_, hrv⟩, put4_below HBF.out _ (Nat.le_refl _) _ _ _ _⟩
            rw [HT.out]
            show Ending.returned (.tuple #[.agg #[.int .i64 9, .string ⟨#[]⟩, .int .i64 0, .slice Av i cv], .int .i64 (q : Nat), .bool true]) = Ending.returned (.tuple #[.agg #[.int .i64 9, .string ⟨#[]⟩, .int .i64 0, .slice Av acc.length cv], .int .i64 (q : Nat), .bool true])
            rw [HIL.out]
          · obtain ⟨m', rfl⟩ : ∃ m', m = m' + 1 := ⟨m - 1, by omega⟩
            have hex : (bs l).extract q n = bs (l.drop q) := by rw [bs_extract, bs_data, List.take_of_length_le (by rw [List.length_drop, HN.out]; omega)]
            have hlq : (l.drop q).length = n - q := by rw [List.length_drop, HN.out]
            have HD := Lib.hid (ih (l.drop q) wr (by rw [hlq]; omega))
            have hrl0 : Rsp.rd d (l.drop q).length (l.drop q) = Rsp.rd d n (l.drop q) := (Rsp.rd_L d n (l.drop q) (by rw [hlq]; omega)).symm
            rw [hrl0, hlq] at HD
            obtain ⟨Y, hY⟩ : ∃ Y, Rsp.rd d n (l.drop q) = Y := ⟨_, rfl⟩
            rw [hY] at HD
            obtain ⟨B, hBq⟩ : ∃ B, l.drop q = B := ⟨_, rfl⟩
            rw [hBq] at hex HD
            have HBQ := Lib.hid hBq
            have HY := Lib.hid hY
            have k1 : (0 : Int) < ((m' + 1 : Nat) : Int) := by omega
            have k2 : (q : Int) ≤ (n : Int) := by omega
            have k3 : ((m' + 1 : Nat) : Int) - 1 = (m' : Int) := by omega
            have HB1o := Lib.hid hB1
            have HB2o := Lib.hid hB2
            have HB3o := Lib.hid hB3
            have HBL := Lib.hid hbel
            clear hlq hrl0 hY hBq hB1 hB2 hB3 hbel
            rcases Y with _ | ⟨r, u⟩
            · have HR := Lib.hid (show X = none by rw [HX.out, HRP.out, Rsp.reps, HY.out]; rfl)
              go_wp2_with fail
              refine HD.out.mono ?_
              rintro e w1 ⟨rfl, hb1⟩
              have g1 := (HB1o.out.below hb1 HB1o.out.lt).alloc (.cells #[.int .i64 0, .string ⟨#[]⟩, .int .i64 0, .slice none 0 0] 27)
              have g2 := (HB2o.out.below hb1 HB2o.out.lt).alloc (.cells #[.int .i64 0, .string ⟨#[]⟩, .int .i64 0, .slice none 0 0] 27)
              have x1 := g1.x4
              have x2 := g2.x4
              have z0 := g1.frozen 0
              have z1 := g1.frozen 1
              have z2 := g1.frozen 2
              have z3 := g1.frozen 3
              have HBF := Lib.hid ((HBL.out.trans (hb1.mono HBL.out.size)).alloc (Nat.le_trans HBL.out.size hb1.size) (.cells #[.int .i64 0, .string ⟨#[]⟩, .int .i64 0, .slice none 0 0] 27))
              have hsz1 : G + 1 ≤ w1.heap.size := Nat.le_trans hsz hb1.size
              clear hb1
              go_wp2_with fail
              refine bodyPost_ret (ret_cell3 rfl _ _ w.heap.size _ _ _ _ _ rfl (g1.put4 _ _ _ _)) rfl ?_
              rw [HR.out]
              exact ⟨rfl, put4_below HBF.out _ (Nat.le_refl _) _ _ _ _⟩
            · have hdr := Rsp.rd_drop HY.out
              rw [HN.out] at hdr
              have hsf := Rsp.rd_suf d HY.out
              rw [List.length_drop, HN.out] at hsf
              obtain ⟨q', hq'⟩ : ∃ q', n - u.length = q' := ⟨_, rfl⟩
              rw [hq'] at hdr
              obtain ⟨K1, hK1⟩ : ∃ K, n - q - u.length = K := ⟨_, rfl⟩
              have k4 : (q : Int) + (K1 : Int) = (q' : Int) := by omega
              have HRP2 := Lib.hid (show Rsp.reps (Rsp.rd d n) k (l.drop p) = (Rsp.reps (Rsp.rd d n) m' (l.drop q')).map (fun z => ((acc ++ [r]) ++ z.1, z.2)) by
                rw [HRP.out, Rsp.reps, HY.out, ← hdr]
                simp only
                cases Rsp.reps (Rsp.rd d n) m' u <;> simp)
              have hq2 : q' ≤ n := by omega
              have HD2 : Hid (Calls Tryd.prog 30 #[.string (bs B), .int .i64 (d : Nat)] wr fun e w' => (∃ E f, e = .returned (.tuple #[.agg #[.int .i64 r.k, sv r.s, .int .i64 r.n, .slice E r.l.length f], .int .i64 (K1 : Nat), .bool true]) ∧ RV w' (New wr w') r [.int .i64 r.k, sv r.s, .int .i64 r.n, .slice E r.l.length f]) ∧ Below wr.heap.size wr w') := Lib.hid (by have h := HD.out; unfold RD3 at h; simp only [hK1] at h; exact h)
              clear hdr hsf hq' hK1 HD
              go_wp2_with fail
              refine HD2.out.mono ?_
              rintro e w1 ⟨⟨E2, f2, rfl, hv⟩, hbx⟩
              have hsz1 : G + 1 ≤ w1.heap.size := Nat.le_trans hsz hbx.size
              have g3 := ((HB3o.out.below hbx HB3o.out.lt).alloc (.cells #[.int .i64 r.k, sv r.s, .int .i64 r.n, .slice E2 r.l.length f2] 27))
              have c3 := g3.cell 3
              have x13 := (Blk.new w1 27 #[.int .i64 r.k, sv r.s, .int .i64 r.n, .slice E2 r.l.length f2]).x4
              have HG3 := Lib.hid (g3.alloc (.cells #[.int .i64 r.k, sv r.s, .int .i64 r.n, .slice E2 r.l.length f2] 27))
              have hlit : Own ((w1.alloc (.cells #[.int .i64 r.k, sv r.s, .int .i64 r.n, .slice E2 r.l.length f2] 27)).alloc (.cells #[.int .i64 r.k, sv r.s, .int .i64 r.n, .slice E2 r.l.length f2] 27)) (G + 1) 27 4 (.slice (some ⟨w1.heap.size + 1, 0, none⟩) 1 1) 1 [.int .i64 r.k, sv r.s, .int .i64 r.n, .slice E2 r.l.length f2] := by
                have := Own.lit (base := G + 1) (e := 27) (size := 4) (w1.alloc (.cells #[.int .i64 r.k, sv r.s, .int .i64 r.n, .slice E2 r.l.length f2] 27)) #[.int .i64 r.k, sv r.s, .int .i64 r.n, .slice E2 r.l.length f2] 1 (by rw [World.alloc_size]; omega) (by decide) rfl
                rwa [World.alloc_size] at this
              have hone : ∀ v ∈ ([.int .i64 r.k, sv r.s, .int .i64 r.n, .slice E2 r.l.length f2] : List Value), v.oneCell' = true := by intro v hv; simp at hv; rcases hv with rfl | rfl | rfl | rfl <;> rfl
              have HSRC := Lib.hid (Src.own (P := Tryd.prog) (u := 25) (e' := 27) hlit Tryd.underlying25 hone (by decide))
              have HOW := Lib.hid (((hown.below_ hbx).alloc (.cells #[.int .i64 r.k, sv r.s, .int .i64 r.n, .slice E2 r.l.length f2] 27)).alloc (.cells #[.int .i64 r.k, sv r.s, .int .i64 r.n, .slice E2 r.l.length f2] 27))
              have hgo : ∀ kk, (Value.slice Av i cv).ownBlock = some kk → G + 1 ≤ kk := fun kk hkk => (hown.lt kk hkk).1
              have HOWN := Lib.hid hown
              have HRL := Lib.hid hrl
              have HV := Lib.hid hv
              have HBX := Lib.hid hbx
              clear hlit hone hown hrl hv hbx g3
              go_wp2_with (at_builtin
                           refine wpList_append_Own _ rfl (.tmp 112) (.tmp 114) _ _ rfl (G + 1) 27 i0 _ 4 56 Tryd.underlying25 hi hz0 hz1 hz2 rfl (.slice Av i cv) i xs1 rfl HOW.out _ 1 [.int .i64 r.k, sv r.s, .int .i64 r.n, .slice E2 r.l.length f2] rfl HSRC.out (by unfold maxLen; omega) (by omega) (by rw [World.alloc_size, World.alloc_size]; omega) ?_
                           intro v4 w4 hO4 hg4 hat
                           obtain ⟨A4, c4, rfl⟩ := hO4.sliceForm
                           have hB13 := HG3.out.grown hg4 (fun e => by have := hgo _ e.symm; omega)
                           have j3 := hB13.cell 3
                           have y3 := hB13.frozen 3)
              have hrl4 := RLs.push hsz HOWN.out HRL.out HBX.out HV.out (((Below.refl w1.heap.size w1).alloc (Nat.le_refl _) (.cells #[.int .i64 r.k, sv r.s, .int .i64 r.n, .slice E2 r.l.length f2] 27)).alloc (by simp) (.cells #[.int .i64 r.k, sv r.s, .int .i64 r.n, .slice E2 r.l.length f2] 27)) hg4 hat
              have hO5 : OR (w4.setCell ⟨G, 3, none⟩ (.slice A4 (i + 1) c4)) (G + 1) (.slice A4 (i + 1) c4) (acc ++ [r]) := by
                have h4 : OR w4 (G + 1) (.slice A4 (i + 1) c4) (acc ++ [r]) := ⟨xs1 ++ [.int .i64 r.k, sv r.s, .int .i64 r.n, .slice E2 r.l.length f2], by rw [List.length_append, HIL.out]; exact hO4, hrl4⟩
                exact h4.far (by omega) 3 _
              have hB15 : Blk (w4.setCell ⟨G, 3, none⟩ (.slice A4 (i + 1) c4)) w.heap.size 27 #[.int .i64 0, .string ⟨#[]⟩, .int .i64 0, .slice none 0 0] := ((((HB1o.out.below HBX.out HB1o.out.lt).alloc _).alloc _).grown hg4 (fun e => by have := hgo _ e.symm; omega)).far (by simp; omega) _
              have hB25 : Blk (w4.setCell ⟨G, 3, none⟩ (.slice A4 (i + 1) c4)) (w.heap.size + 1) 27 #[.int .i64 0, .string ⟨#[]⟩, .int .i64 0, .slice none 0 0] := ((((HB2o.out.below HBX.out HB2o.out.lt).alloc _).alloc _).grown hg4 (fun e => by have := hgo _ e.symm; omega)).far (by simp; omega) _
              have hB35 : Blk (w4.setCell ⟨G, 3, none⟩ (.slice A4 (i + 1) c4)) G 27 #[.int .i64 9, .string ⟨#[]⟩, .int .i64 0, .slice A4 (i + 1) c4] := hB13.set_ 3 _
              have hbf : Below w.heap.size w (w4.setCell ⟨G, 3, none⟩ (.slice A4 (i + 1) c4)) :=
                below_set ((((HBL.out.trans (HBX.out.mono HBL.out.size)).alloc (Nat.le_trans HBL.out.size HBX.out.size) _).alloc (by rw [World.alloc_size]; have := HBL.out.size; have := HBX.out.size; omega) _).grown hg4 (by rw [World.alloc_size, World.alloc_size]; have := HBL.out.size; have := HBX.out.size; omega) (fun k hk => by have := hgo k hk; omega)) (by omega) 3 _
              have hszf : G + 1 ≤ (w4.setCell ⟨G, 3, none⟩ (.slice A4 (i + 1) c4)).heap.size := by
                rw [World.setCell_size]; have := hg4.size; rw [World.alloc_size, World.alloc_size] at this; omega
              have hal : (acc ++ [r]).length + m' = k := by rw [List.length_append, HIL.out]; simp; omega
              have HH := Lib.hid (And.intro hB15 (And.intro hB25 (And.intro hB35 (And.intro hO5 (And.intro hbf hszf)))))
              clear hB15 hB25 hB35 hO5 hbf hszf hrl4
              go_wp2_with fail
              go_roundw
              case rel =>
                first
                  | exact ⟨m', q', acc ++ [r], _, by first | rfl | go_num, by first | rfl | go_num, hq2, hal, HH.out.1, HH.out.2.1, HH.out.2.2.1, HH.out.2.2.2.1, HRP2, HH.out.2.2.2.2.1, HH.out.2.2.2.2.2⟩
                  | ((repeat apply Exists.intro); exact ⟨⟨m', q', acc ++ [r], _, by first | rfl | go_num, by first | rfl | go_num, hq2, hal, HH.out.1, HH.out.2.1, HH.out.2.2.1, HH.out.2.2.2.1, HRP2, HH.out.2.2.2.2.1, HH.out.2.2.2.2.2⟩, rfl⟩)
              case measure => simp [intOf]
end Go.Proofs.YtjdnpgdedbegfaaDoor
