/- The walk of rest's many. -/
import Derived.Test.YtjdnpgdedbegfaaDoorRspI
namespace Go.Proofs.YtjdnpgdedbegfaaDoor
open Go.RowKit Go.Shelf
set_option linter.unusedVariables false

set_option maxRecDepth 100000 in
set_option maxHeartbeats 8000000 in
theorem many_not8 (d : Nat) (hd : d ≤ 32) (hR : ReadAt d) {g n c : Nat} {A : Option Addr} {l : List UInt8} {p : Nat} (k x : Int) (w : World) (h : Rst w g n c A l p) (hn : n ≤ 1048576) (hx : fits x) (hk8 : (k == 8) = false) (hk : fits k) :
    Calls Tryd.prog 36 #[.pointer (some ⟨g, 0, none⟩), .int .i64 k, .int .i64 x, .int .i64 (33 - (d : Int))] w fun e w' => RRet w w' e g n c A l (Rsp.many k (Rsp.rd d n) n x x.toNat (l.drop p)) ∧ w.grownBy w' (some g) := by
  obtain ⟨i0, hi, hz0, hz1, hz2⟩ := info_parts repinfo
  have hpn : p ≤ n := h.2.2.2.2.2
  have hnc : n ≤ c := h.2.2.2.1
  have hcm : c ≤ 9223372036854775807 := by have := h.2.2.2.2.1; unfold maxLen at this; exact this
  have HNL := Lib.hid h.2.2.1
  have hg := h.lt
  obtain ⟨hx1, hx2⟩ := hx
  by_cases hx0 : x < 0
  · have HR := Lib.hid (show Rsp.many k (Rsp.rd d n) n x x.toNat (l.drop p) = none by unfold Rsp.many; rw [if_pos (.inl hx0)])
    go_enter Tryd.func36, Tryd.ntmps36
    go_wp2_with fail
    refine bodyPost_ret (ret_cell2 rfl _ _ w.heap.size _ _ _ _ _ rfl ((Blk.new w _ _).alloc _)) rfl ?_
    rw [HR.out]
    exact ⟨⟨_, _, _, _, _, _, rfl⟩, grown_of (((Below.refl _ _).alloc (Nat.le_refl _) _).alloc (by simp) _) _⟩
  · obtain ⟨m, rfl⟩ : ∃ m : Nat, x = (m : Int) := ⟨x.toNat, by omega⟩
    have c0 := h.1.cell 0
    have hx0' : ¬ ((m : Int) < 0) := by omega
    rw [Int.toNat_natCast]
    by_cases hbig : (n : Int) < (m : Int)
    · have HR := Lib.hid (show Rsp.many k (Rsp.rd d n) n (m : Int) m (l.drop p) = none by unfold Rsp.many; rw [if_pos (.inr hbig)])
      clear hx0
      have c0' : ((w.alloc (.cells #[.int .i64 0, .string ⟨#[]⟩, .int .i64 0, .slice none 0 0] 27)).alloc (.cells #[.int .i64 k, .string ⟨#[]⟩, .int .i64 0, .slice none 0 0] 27)).cell? ⟨g, 0, none⟩ = some (.slice A n c) := ((h.1.alloc _).alloc _).cell 0
      go_enter Tryd.func36, Tryd.ntmps36
      go_wp2_with fail
      refine bodyPost_ret (ret_cell2 rfl _ _ w.heap.size _ _ _ _ _ rfl ((Blk.new w _ _).alloc _)) rfl ?_
      rw [HR.out]
      exact ⟨⟨_, _, _, _, _, _, rfl⟩, grown_of (((Below.refl _ _).alloc (Nat.le_refl _) _).alloc (by simp) _) _⟩
    · have HM := Lib.hid (show Rsp.many k (Rsp.rd d n) n (m : Int) m (l.drop p) = (Rsp.reps (Rsp.rd d n) m (l.drop p)).map fun p => (.mk k [] 0 p.1, p.2) by unfold Rsp.many; rw [if_neg (by omega)])
      have hmn : m ≤ n := by omega
      obtain ⟨D, hD⟩ : ∃ D : Int, 33 - (d : Int) = D := ⟨_, rfl⟩
      have hD0 : 0 ≤ D := by omega
      have hD1 : D ≤ 33 := by omega
      have HRd : Hid (∀ (w : World) (q : Nat), Rst w g n c A l q → Calls Tryd.prog 23 #[.pointer (some ⟨g, 0, none⟩), .int .i64 (D + 1)] w fun e w' => RRet w w' e g n c A l (Rsp.rd d n (l.drop q)) ∧ w.grownBy w' (some g)) := Lib.hid (fun w q h => by
        have := hR w g n c A l q h hn (by omega)
        rwa [show (34 - (d : Int)) = D + 1 by omega] at this)
      rw [hD]
      clear hx0 hD
      have hblo : Below w.heap.size w ((w.alloc (.cells #[.int .i64 0, .string ⟨#[]⟩, .int .i64 0, .slice none 0 0] 27)).alloc (.cells #[.int .i64 k, .string ⟨#[]⟩, .int .i64 0, .slice none 0 0] 27)) := ((Below.refl _ _).alloc (Nat.le_refl _) _).alloc (by simp) _
      have c0' := hblo.cell (p := ⟨g, 0, none⟩) hg
      rw [c0] at c0'
      have HB8 := Lib.hid (show Blk ((w.alloc (.cells #[.int .i64 0, .string ⟨#[]⟩, .int .i64 0, .slice none 0 0] 27)).alloc (.cells #[.int .i64 k, .string ⟨#[]⟩, .int .i64 0, .slice none 0 0] 27)) w.heap.size 27 #[.int .i64 0, .string ⟨#[]⟩, .int .i64 0, .slice none 0 0] from (Blk.new w _ _).alloc _)
      have HB10 := Lib.hid (show Blk ((w.alloc (.cells #[.int .i64 0, .string ⟨#[]⟩, .int .i64 0, .slice none 0 0] 27)).alloc (.cells #[.int .i64 k, .string ⟨#[]⟩, .int .i64 0, .slice none 0 0] 27)) (w.heap.size + 1) 27 #[.int .i64 k, .string ⟨#[]⟩, .int .i64 0, .slice none 0 0] by
        have := Blk.new (w.alloc (.cells #[.int .i64 0, .string ⟨#[]⟩, .int .i64 0, .slice none 0 0] 27)) 27 #[.int .i64 k, .string ⟨#[]⟩, .int .i64 0, .slice none 0 0]
        simpa using this)
      have HS := Lib.hid (h.below hblo hg)
      have HBL := Lib.hid hblo
      clear c0 h hblo
      go_enter Tryd.func36, Tryd.ntmps36
      go_wp2_with fail
      go_loopw [32] (fun x wr => ∃ i, i ≤ m ∧ x = .int .i64 (i : Nat) ∧ Blk wr w.heap.size 27 #[.int .i64 0, .string ⟨#[]⟩, .int .i64 0, .slice none 0 0] ∧ MLoop (w.heap.size + 2) (w.heap.size + 1) k g n c A l (Rsp.rd d n) (l.drop p) m i wr ∧ w.grownBy wr (some g) ∧ w.heap.size + 2 ≤ wr.heap.size) (fun x _ => m - (intOf x).toNat)
      case atStart => exact ⟨0, Nat.zero_le _, rfl, HB8.out, ⟨[], p, .slice none 0 0, [], HB10.out, Own.nil _ _ _ _, rfl, RLs.nil, HS.out, Rsp.RsAt.start _ _ _⟩, grown_of HBL.out _, by simp⟩
      case round =>
        obtain ⟨i, him, rfl, hB8, HL, hgr, hsz⟩ := hrel
        obtain ⟨acc, q, v, xs, hB10, hown, hal, hrl, hrst, hsat⟩ := HL
        rcases Nat.lt_or_ge i m with hlt | hge
        · have hlt' : (i : Int) < (m : Int) := by omega
          have hC := HRd.out wr q hrst
          have hmi : m - i = (m - (i + 1)) + 1 := by omega
          rw [hmi] at hsat
          rcases hrd : Rsp.rd d n (l.drop q) with _ | ⟨r, t⟩
          · rw [hrd] at hC
            have HR := Lib.hid (HM.out.trans (by rw [hsat.bad hrd]; try rfl))
            clear hsat hmi
            go_wp2_with fail
            refine hC.mono ?_
            rintro e w1 ⟨⟨e0, e1, e2, e3, e4, e5, rfl⟩, hg1⟩
            have hB8' := hB8.grown hg1 (fun e => by injection e with e; omega)
            have hB9 := hB8'.alloc (.cells #[.int .i64 e0, .string e1, .int .i64 e2, .slice e3 e4 e5] 27)
            have k0 := hB9.cell 0
            have k1 := hB9.cell 1
            have k2 := hB9.cell 2
            have k3 := hB9.cell 3
            have z0 := hB9.frozen 0
            have z1 := hB9.frozen 1
            have z2 := hB9.frozen 2
            have z3 := hB9.frozen 3
            go_wp2_with fail
            refine bodyPost_ret (ret_cell2 rfl _ _ w.heap.size _ _ _ _ _ rfl (hB9.put4 _ _ _ _)) rfl ?_
            rw [HR.out]
            exact ⟨⟨_, _, _, _, _, _, rfl⟩, grown_far (grown_far (grown_far (grown_far (grown_alloc (grown_trans hgr hg1) _) (Nat.le_refl _) _ _) (Nat.le_refl _) _ _) (Nat.le_refl _) _ _) (Nat.le_refl _) _ _⟩
          · rw [hrd] at hC
            have hsd := Rsp.rd_drop hrd
            have htl := Rsp.rd_suf d hrd
            rw [List.length_drop] at htl
            obtain ⟨q', hq'⟩ : ∃ q', n - t.length = q' := ⟨_, rfl⟩
            have hX := hsat.next hrd
            rw [hsd, ← HNL.out, hq'] at hX
            have HX := Lib.hid hX
            have HQ := Lib.hid hq'
            clear hsat hmi hX hsd htl hq'
            obtain ⟨Av, cv, rfl⟩ := hown.sliceForm
            go_wp2_with fail
            refine hC.mono ?_
            rintro e w1 ⟨⟨⟨E, f, rfl, hrv⟩, hrs1⟩, hg1⟩
            rw [HQ.out] at hrs1
            have hB8' := hB8.grown hg1 (fun e => by injection e with e; omega)
            have hB10' : Blk w1 (w.heap.size + 1) 27 #[.int .i64 k, sv [], .int .i64 0, .slice Av i cv] := hB10.grown hg1 (fun e => by injection e with e; omega)
            have hown1 := own_far_g hown hg1 (by omega)
            have hb2 : w.heap.size + 2 ≤ w1.heap.size := Nat.le_trans hsz hg1.size
            have k3 := (hB10'.alloc (.cells #[.int .i64 r.k, .string (bs r.s), .int .i64 r.n, .slice E r.l.length f] 27)).cell 3
            have hB11 := Blk.new w1 27 #[.int .i64 r.k, .string (bs r.s), .int .i64 r.n, .slice E r.l.length f]
            have k4 := hB11.cell 0
            have k5 := hB11.cell 1
            have k6 := hB11.cell 2
            have k7 := hB11.cell 3
            have hb3 : w.heap.size + 2 ≤ (w1.alloc (.cells #[.int .i64 r.k, .string (bs r.s), .int .i64 r.n, .slice E r.l.length f] 27)).heap.size := by simp; omega
            have hown2 := (hown1.alloc (.cells #[.int .i64 r.k, .string (bs r.s), .int .i64 r.n, .slice E r.l.length f] 27)).alloc (.cells #[.int .i64 r.k, .string (bs r.s), .int .i64 r.n, .slice E r.l.length f] 27)
            have HB12 := Lib.hid ((hB10'.alloc (.cells #[.int .i64 r.k, .string (bs r.s), .int .i64 r.n, .slice E r.l.length f] 27)).alloc (.cells #[.int .i64 r.k, .string (bs r.s), .int .i64 r.n, .slice E r.l.length f] 27))
            have hbe : Below w1.heap.size w1 ((w1.alloc (.cells #[.int .i64 r.k, .string (bs r.s), .int .i64 r.n, .slice E r.l.length f] 27)).alloc (.cells #[.int .i64 r.k, .string (bs r.s), .int .i64 r.n, .slice E r.l.length f] 27)) := ((Below.refl _ _).alloc (Nat.le_refl _) _).alloc (by simp) _
            have hgo : ∀ kk, (Value.slice Av i cv).ownBlock = some kk → w.heap.size + 2 ≤ kk := fun kk hkk => (hown.lt kk hkk).1
            have hlit : Own ((w1.alloc (.cells #[.int .i64 r.k, .string (bs r.s), .int .i64 r.n, .slice E r.l.length f] 27)).alloc (.cells #[.int .i64 r.k, .string (bs r.s), .int .i64 r.n, .slice E r.l.length f] 27)) (w.heap.size + 2) 27 4 (.slice (some ⟨w1.heap.size + 1, 0, none⟩) 1 1) 1 [.int .i64 r.k, .string (bs r.s), .int .i64 r.n, .slice E r.l.length f] := by
              have hl := Own.lit (base := w.heap.size + 2) (e := 27) (size := 4) (w1.alloc (.cells #[.int .i64 r.k, .string (bs r.s), .int .i64 r.n, .slice E r.l.length f] 27)) #[.int .i64 r.k, .string (bs r.s), .int .i64 r.n, .slice E r.l.length f] 1 hb3 (by decide) rfl
              rwa [show (w1.alloc (.cells #[.int .i64 r.k, .string (bs r.s), .int .i64 r.n, .slice E r.l.length f] 27)).heap.size = w1.heap.size + 1 by simp] at hl
            have hone : ∀ v ∈ [Value.int .i64 r.k, .string (bs r.s), .int .i64 r.n, .slice E r.l.length f], v.oneCell' = true := by
              intro v hv; simp at hv; rcases hv with rfl | rfl | rfl | rfl <;> rfl
            go_wp2_with (first
              | (at_builtin; refine (wpList_append_Own _ rfl (.tmp 45) (.tmp 47) _ _ rfl (w.heap.size + 2) 27 i0 _ 4 56 Tryd.underlying25 hi hz0 hz1 hz2 rfl (.slice Av i cv) i xs rfl hown2 _ 1 [.int .i64 r.k, .string (bs r.s), .int .i64 r.n, .slice E r.l.length f] rfl (Src.own hlit Tryd.underlying25 hone (by decide)) (by unfold maxLen; omega) (by omega) (by simp; omega) ?_); intro v4 w4 hO4 hg4 hat; obtain ⟨A4, c4, rfl⟩ := hO4.sliceForm; have hB13 := HB12.out.grown hg4 (fun e => by have := hgo _ e.symm; omega); have j3 := hB13.cell 3; have z3 := hB13.frozen 3))
            have hL := MLoop.next (go := w.heap.size + 1) (cs := [.int .i64 r.k, .string (bs r.s), .int .i64 r.n, .slice E r.l.length f]) (k := k) (by omega) (by omega) hsz hal hown hrl hB10 hg1 hrv hbe hg4 hO4 (by simpa using hat) hrs1 HX.out
            have hG : w.grownBy (w4.setCell ⟨w.heap.size + 1, 3, none⟩ (.slice A4 (i + 1) c4)) (some g) := grown_far (grown_own (grown_alloc (grown_alloc (grown_trans hgr hg1) _) _) hg4 (fun kk hkk => by have := hgo kk hkk; omega)) (by omega) _ _
            have hB8f : Blk (w4.setCell ⟨w.heap.size + 1, 3, none⟩ (.slice A4 (i + 1) c4)) w.heap.size 27 #[.int .i64 0, .string ⟨#[]⟩, .int .i64 0, .slice none 0 0] := ((((hB8'.alloc _).alloc _).grown hg4 (fun e => by have := hgo _ e.symm; omega))).far (by simp) _
            have hsf : w.heap.size + 2 ≤ (w4.setCell ⟨w.heap.size + 1, 3, none⟩ (.slice A4 (i + 1) c4)).heap.size := by
              rw [World.setCell_size]; have := hg4.size; simp at this; omega
            go_roundw
            case rel =>
              first
                | exact ⟨i + 1, by omega, by go_num, hB8f, hL, hG, hsf⟩
                | ((repeat apply Exists.intro); exact ⟨⟨i + 1, by omega, by go_num, hB8f, hL, hG, hsf⟩, rfl⟩)
            case measure => simp [intOf]; omega
        · have him' : i = m := by omega
          subst him'
          rw [Nat.sub_self] at hsat
          have HR := Lib.hid (HM.out.trans (by rw [hsat.out]; try rfl))
          clear hsat
          obtain ⟨Av, cv, rfl⟩ := hown.sliceForm
          have k0 := hB8.cell 0
          have k1 := hB8.cell 1
          have k2 := hB8.cell 2
          have k3 := hB8.cell 3
          have z0 := hB8.frozen 0
          have z1 := hB8.frozen 1
          have z2 := hB8.frozen 2
          have z3 := hB8.frozen 3
          have j0 := hB10.cell 0
          have j1 := hB10.cell 1
          have j2 := hB10.cell 2
          have j3 := hB10.cell 3
          go_wp2_with fail
          refine bodyPost_ret (ret_cell2 rfl _ _ w.heap.size _ _ _ _ _ rfl (hB8.put4 _ _ _ _)) rfl ?_
          rw [HR.out]
          have hne : (Value.slice Av i cv).ownBlock ≠ some w.heap.size := fun e => by have := (hown.lt _ e).1; omega
          have hO := put4_own hown hne (.int .i64 k) (sv []) (.int .i64 0) (.slice Av i cv)
          have hform : i ≤ cv ∧ cv ≤ maxLen := by
            rcases hown.form with ⟨h1, h2⟩ | ⟨gg, cap, h1, h2, h3, h4, h5⟩
            · injection h1 with e1 e2 e3; subst e3; exact ⟨by omega, by unfold maxLen; omega⟩
            · injection h1 with e1 e2 e3; subst e3; exact ⟨h4, h5⟩
          have hqn : n - (l.drop q).length = q := by
            rw [List.length_drop]; have := HNL.out; have := hrst.2.2.2.2.2; omega
          show RRet w (put4 wr w.heap.size (.int .i64 k) (sv []) (.int .i64 0) (.slice Av i cv)) _ g n c A l _ ∧ w.grownBy (put4 wr w.heap.size (.int .i64 k) (sv []) (.int .i64 0) (.slice Av i cv)) _
          refine ⟨⟨⟨Av, cv, ?_, ?_⟩, ?_⟩, put4_grown hgr (Nat.le_refl _) _ _ _ _⟩
          · show Ending.returned (.tuple #[.agg #[.int .i64 k, .string (bs []), .int .i64 0, .slice Av i cv], _]) = Ending.returned (.tuple #[.agg #[.int .i64 k, sv [], .int .i64 0, .slice Av acc.length cv], .bool true])
            rw [hal]; rfl
          · refine RV.mk_ hk (by unfold fits; omega) (by simp) (by rw [hal]; exact hform.1) hform.2 ?_ (xs := xs) ?_
            · rw [hal]
              exact RD.of_own hO (fun kk hkk => ⟨by have := (hown.lt kk hkk).1; omega, by rw [put4_size]; exact (hown.lt kk hkk).2⟩)
            · refine RLs.mono (fun b hb => ⟨by have := hb.1; omega, by rw [put4_size]; exact hb.2.1⟩) (RLs.keep (fun p hp => put4_cell _ _ _ _ _ _ p (by have := hp.1; omega)) hrl)
          · show Rst _ g n c A l (n - (l.drop q).length)
            rw [hqn]
            exact put4_rst hrst hg _ _ _ _
end Go.Proofs.YtjdnpgdedbegfaaDoor
