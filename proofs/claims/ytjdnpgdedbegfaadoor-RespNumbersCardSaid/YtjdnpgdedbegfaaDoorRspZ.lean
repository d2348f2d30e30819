/- The walks of plain at the kinds without parts. -/
import Derived.Test.YtjdnpgdedbegfaaDoorRspY
namespace Go.Proofs.YtjdnpgdedbegfaaDoor
open Go.RowKit Go.Shelf
set_option linter.unusedVariables false

/-- What plain asks and gives. -/
def PlainAt (r : Rep) : Prop := ∀ (d : Nat) (w : World) (cs : List Value), okM d r → Liv w r cs →
  Calls Tryd.prog 14 #[.agg cs.toArray] w fun e w' => FRet w w' e r.pln ∧ Below w.heap.size w w'
theorem ext_one (T : ByteArray) (i : Nat) (h : i < T.size) : T.extract i (i + 1) = bs [T[i]] := by
  rw [bs_extract, show i + 1 - i = 1 by omega]
  have hl : i < T.data.toList.length := by rw [bs_len]; exact h
  rw [List.drop_eq_getElem_cons hl]
  rfl
theorem filt_succ (s : List UInt8) (i : Nat) {c : UInt8} (h : s[i]? = some c) : (s.take (i + 1)).filter line_ = (s.take i).filter line_ ++ (if line_ c then [c] else []) := by
  obtain ⟨hi, hr⟩ := List.getElem?_eq_some_iff.1 h
  rw [List.take_succ_eq_append_getElem hi, hr, List.filter_append]
  by_cases hc : line_ c <;> simp [hc]

set_option maxRecDepth 100000 in
set_option maxHeartbeats 8000000 in
theorem plain_int (s : List UInt8) (n : Int) (l : List Rep) : PlainAt (.mk 3 s n l) := by
  intro d w cs hok hr
  obtain ⟨hs20, hl4, hsub⟩ := okM_parts hok
  obtain ⟨A, c, xs, rfl, hk1, hn1, hs1, hlc1, hcm1, hd1, hl1⟩ := hr.fields
  simp only [Rep.k, Rep.s, Rep.n, Rep.l] at *
  have HF := Lib.hid (show Rep.pln (.mk 3 s n l) = .mk 3 s n [] by rw [pln_mk]; simp)
  have Hn := Lib.hid hn1
  have Hs := Lib.hid hs1
  obtain ⟨N, hN⟩ : ∃ N, l.length = N := ⟨_, rfl⟩
  rw [hN] at hr ⊢
  clear hok hd1 hl1 hN hr hsub hlc1
  go_enter Tryd.func14, Tryd.ntmps14
  go_wp2_with fail
  have hB2x : Blk (((w.alloc (.cells #[.int .i64 3, sv s, .int .i64 n, .slice A N c] 27)).alloc (.cells #[.int .i64 3, sv s, .int .i64 n, .slice none 0 0] 27)).alloc (.cells #[.int .i64 3, sv s, .int .i64 n, .slice none 0 0] 27)) (w.heap.size + 1) 27 #[.int .i64 3, sv s, .int .i64 n, .slice none 0 0] := by
    have := (Blk.new (w.alloc (.cells #[.int .i64 3, sv s, .int .i64 n, .slice A N c] 27)) 27 #[.int .i64 3, sv s, .int .i64 n, .slice none 0 0]).alloc (.cells #[.int .i64 3, sv s, .int .i64 n, .slice none 0 0] 27)
    rwa [World.alloc_size] at this
  refine bodyPost_ret (ret_cell1 rfl _ _ (w.heap.size + 1) _ _ _ _ _ rfl hB2x) rfl ?_
  rw [HF.out]
  exact ⟨⟨none, 0, rfl, RV.flat_ (k := 3) (n := n) (by unfold fits; omega) Hn.out Hs.out⟩, (((Below.refl _ _).alloc (Nat.le_refl _) _).alloc (by simp) _).alloc (by simp; omega) _⟩

set_option maxRecDepth 100000 in
set_option maxHeartbeats 8000000 in
theorem plain_bulk (s : List UInt8) (n : Int) (l : List Rep) : PlainAt (.mk 4 s n l) := by
  intro d w cs hok hr
  obtain ⟨hs20, hl4, hsub⟩ := okM_parts hok
  obtain ⟨A, c, xs, rfl, hk1, hn1, hs1, hlc1, hcm1, hd1, hl1⟩ := hr.fields
  simp only [Rep.k, Rep.s, Rep.n, Rep.l] at *
  have HF := Lib.hid (show Rep.pln (.mk 4 s n l) = .mk 4 s n [] by rw [pln_mk]; simp)
  have Hn := Lib.hid hn1
  have Hs := Lib.hid hs1
  obtain ⟨N, hN⟩ : ∃ N, l.length = N := ⟨_, rfl⟩
  rw [hN] at hr ⊢
  clear hok hd1 hl1 hN hr hsub hlc1
  go_enter Tryd.func14, Tryd.ntmps14
  go_wp2_with fail
  have hB2x : Blk (((w.alloc (.cells #[.int .i64 4, sv s, .int .i64 n, .slice A N c] 27)).alloc (.cells #[.int .i64 4, sv s, .int .i64 n, .slice none 0 0] 27)).alloc (.cells #[.int .i64 4, sv s, .int .i64 n, .slice none 0 0] 27)) (w.heap.size + 1) 27 #[.int .i64 4, sv s, .int .i64 n, .slice none 0 0] := by
    have := (Blk.new (w.alloc (.cells #[.int .i64 4, sv s, .int .i64 n, .slice A N c] 27)) 27 #[.int .i64 4, sv s, .int .i64 n, .slice none 0 0]).alloc (.cells #[.int .i64 4, sv s, .int .i64 n, .slice none 0 0] 27)
    rwa [World.alloc_size] at this
  refine bodyPost_ret (ret_cell1 rfl _ _ (w.heap.size + 1) _ _ _ _ _ rfl hB2x) rfl ?_
  rw [HF.out]
  exact ⟨⟨none, 0, rfl, RV.flat_ (k := 4) (n := n) (by unfold fits; omega) Hn.out Hs.out⟩, (((Below.refl _ _).alloc (Nat.le_refl _) _).alloc (by simp) _).alloc (by simp; omega) _⟩

set_option maxRecDepth 100000 in
set_option maxHeartbeats 8000000 in
theorem plain_null (k : Int) (h1 : k ≠ 1) (h2 : k ≠ 2) (h3 : k ≠ 3) (h4 : k ≠ 4) (h7 : k ≠ 7) (h8 : k ≠ 8) (h9 : k ≠ 9) (s : List UInt8) (n : Int) (l : List Rep) : PlainAt (.mk k s n l) := by
  intro d w cs hok hr
  obtain ⟨hs20, hl4, hsub⟩ := okM_parts hok
  obtain ⟨A, c, xs, rfl, hk1, hn1, hs1, hlc1, hcm1, hd1, hl1⟩ := hr.fields
  simp only [Rep.k, Rep.s, Rep.n, Rep.l] at *
  have HF := Lib.hid (show Rep.pln (.mk k s n l) = .mk 5 s n [] by rw [pln_mk]; rw [if_neg (by omega), if_neg (by omega), if_neg (by omega), if_neg (by omega)])
  have Hn := Lib.hid hn1
  have Hs := Lib.hid hs1
  obtain ⟨N, hN⟩ : ∃ N, l.length = N := ⟨_, rfl⟩
  rw [hN] at hr ⊢
  clear hok hd1 hl1 hN hr hsub hlc1
  have e1 : (k == 1) = false := by simpa using h1
  have e2 : (k == 2) = false := by simpa using h2
  have e3 : (k == 3) = false := by simpa using h3
  have e4 : (k == 4) = false := by simpa using h4
  have e7 : (k == 7) = false := by simpa using h7
  have e8 : (k == 8) = false := by simpa using h8
  have e9 : (k == 9) = false := by simpa using h9
  clear h1 h2 h3 h4 h7 h8 h9
  go_enter Tryd.func14, Tryd.ntmps14
  go_wp2_with fail
  have hB2x : Blk (((w.alloc (.cells #[.int .i64 k, sv s, .int .i64 n, .slice A N c] 27)).alloc (.cells #[.int .i64 5, sv s, .int .i64 n, .slice none 0 0] 27)).alloc (.cells #[.int .i64 5, sv s, .int .i64 n, .slice none 0 0] 27)) (w.heap.size + 1) 27 #[.int .i64 5, sv s, .int .i64 n, .slice none 0 0] := by
    have := (Blk.new (w.alloc (.cells #[.int .i64 k, sv s, .int .i64 n, .slice A N c] 27)) 27 #[.int .i64 5, sv s, .int .i64 n, .slice none 0 0]).alloc (.cells #[.int .i64 5, sv s, .int .i64 n, .slice none 0 0] 27)
    rwa [World.alloc_size] at this
  refine bodyPost_ret (ret_cell1 rfl _ _ (w.heap.size + 1) _ _ _ _ _ rfl hB2x) rfl ?_
  rw [HF.out]
  exact ⟨⟨none, 0, rfl, RV.flat_ (k := 5) (n := n) (by unfold fits; omega) Hn.out Hs.out⟩, (((Below.refl _ _).alloc (Nat.le_refl _) _).alloc (by simp) _).alloc (by simp; omega) _⟩

set_option maxRecDepth 100000 in
set_option maxHeartbeats 8000000 in
theorem plain_line1 (s : List UInt8) (n : Int) (l : List Rep) : PlainAt (.mk 1 s n l) := by
  intro d w cs hok hr
  obtain ⟨hs20, hl4, hsub⟩ := okM_parts hok
  obtain ⟨A, c, xs, rfl, hk1, hn1, hs1, hlc1, hcm1, hd1, hl1⟩ := hr.fields
  simp only [Rep.k, Rep.s, Rep.n, Rep.l] at *
  have HF := Lib.hid (show Rep.pln (.mk 1 s n l) = .mk 1 (s.filter line_) n [] by rw [pln_mk]; simp)
  have Hn := Lib.hid hn1
  have Hs := Lib.hid hs1
  obtain ⟨N, hN⟩ : ∃ N, l.length = N := ⟨_, rfl⟩
  rw [hN] at hr ⊢
  clear hok hd1 hl1 hN hr hsub hlc1
  obtain ⟨L, hL⟩ : ∃ L, s.length = L := ⟨_, rfl⟩
  have HL := Lib.hid hL
  rw [hL] at hs20
  obtain ⟨T, hT⟩ : ∃ T, bs s = T := ⟨_, rfl⟩
  have HT := Lib.hid hT
  have hTs : T.size = L := by rw [← hT, bs_size, hL]
  have HB := Lib.hid (show Below w.heap.size w (((w.alloc (.cells #[.int .i64 1, sv s, .int .i64 n, .slice A N c] 27)).alloc (.cells #[.int .i64 0, .string ⟨#[]⟩, .int .i64 0, .slice none 0 0] 27)).alloc (.cells #[.int .i64 1, .string ⟨#[]⟩, .int .i64 n, .slice none 0 0] 27)) from (((Below.refl _ _).alloc (Nat.le_refl _) _).alloc (by simp) _).alloc (by simp; omega) _)
  have HB1 := Lib.hid (show Blk (((w.alloc (.cells #[.int .i64 1, sv s, .int .i64 n, .slice A N c] 27)).alloc (.cells #[.int .i64 0, .string ⟨#[]⟩, .int .i64 0, .slice none 0 0] 27)).alloc (.cells #[.int .i64 1, .string ⟨#[]⟩, .int .i64 n, .slice none 0 0] 27)) w.heap.size 27 #[.int .i64 1, sv s, .int .i64 n, .slice A N c] from ((Blk.new w _ _).alloc _).alloc _)
  have HB2 := Lib.hid (show Blk (((w.alloc (.cells #[.int .i64 1, sv s, .int .i64 n, .slice A N c] 27)).alloc (.cells #[.int .i64 0, .string ⟨#[]⟩, .int .i64 0, .slice none 0 0] 27)).alloc (.cells #[.int .i64 1, .string ⟨#[]⟩, .int .i64 n, .slice none 0 0] 27)) (w.heap.size + 1) 27 #[.int .i64 0, .string ⟨#[]⟩, .int .i64 0, .slice none 0 0] by
    have := (Blk.new (w.alloc (.cells #[.int .i64 1, sv s, .int .i64 n, .slice A N c] 27)) 27 #[.int .i64 0, .string ⟨#[]⟩, .int .i64 0, .slice none 0 0]).alloc (.cells #[.int .i64 1, .string ⟨#[]⟩, .int .i64 n, .slice none 0 0] 27)
    rwa [World.alloc_size] at this)
  have HB3 := Lib.hid (show Blk (((w.alloc (.cells #[.int .i64 1, sv s, .int .i64 n, .slice A N c] 27)).alloc (.cells #[.int .i64 0, .string ⟨#[]⟩, .int .i64 0, .slice none 0 0] 27)).alloc (.cells #[.int .i64 1, .string ⟨#[]⟩, .int .i64 n, .slice none 0 0] 27)) (w.heap.size + 2) 27 #[.int .i64 1, sv [], .int .i64 n, .slice none 0 0] by
    have h0 := Blk.new ((w.alloc (.cells #[.int .i64 1, sv s, .int .i64 n, .slice A N c] 27)).alloc (.cells #[.int .i64 0, .string ⟨#[]⟩, .int .i64 0, .slice none 0 0] 27)) 27 #[.int .i64 1, .string ⟨#[]⟩, .int .i64 n, .slice none 0 0]
    rwa [World.alloc_size, World.alloc_size] at h0)
  simp only [sv, hT] at HB1
  clear hL hs1
  rw [show sv s = .string T by rw [← hT]] at *
  clear hT
  go_enter Tryd.func14, Tryd.ntmps14
  go_wp2_with fail
  go_loopw [4] (fun x wr => ∃ i, i ≤ L ∧ x = .int .i64 (i : Nat) ∧ Blk wr w.heap.size 27 #[.int .i64 1, .string T, .int .i64 n, .slice A N c] ∧ Blk wr (w.heap.size + 1) 27 #[.int .i64 0, .string ⟨#[]⟩, .int .i64 0, .slice none 0 0] ∧ Blk wr (w.heap.size + 2) 27 #[.int .i64 1, sv ((s.take i).filter line_), .int .i64 n, .slice none 0 0] ∧ Below w.heap.size w wr) (fun x _ => L - (intOf x).toNat)
  case atStart => exact ⟨0, Nat.zero_le _, rfl, HB1.out, HB2.out, by simpa using HB3.out, HB.out⟩
  case round =>
    obtain ⟨i, hiL, rfl, hB1, hB2, hB3, hbel⟩ := hrel
    rcases Nat.lt_or_ge i L with hlt | hge
    · have hlt' : (i : Int) < (L : Int) := by omega
      have hiT : i < T.size := by omega
      have hsi : s[i]? = some T[i] := by
        have e : T.data.toList = s := by rw [← HT.out]; rfl
        rw [← e, List.getElem?_eq_getElem (by rw [bs_len]; exact hiT)]; rfl
      have hfs := filt_succ s i hsi
      obtain ⟨P0, hP0⟩ : ∃ P0, (s.take i).filter line_ = P0 := ⟨_, rfl⟩
      have hP0l : P0.length ≤ 20 := by rw [← hP0]; exact Nat.le_trans (List.length_filter_le _ _) (by rw [List.length_take]; omega)
      rw [hP0] at hfs hB3
      have b11 := hB1.cell 1
      have b31 := hB3.cell 1
      have z31 := hB3.frozen 1
      by_cases h13 : T[i] = 13
      · have q1 := u8_nf (c := T[i]) (d := 13) 13 rfl h13
        have HX := Lib.hid (show (s.take (i + 1)).filter line_ = P0 by rw [hfs, h13]; simp [line_])
        clear h13 hfs hsi hP0
        go_wp2_with fail
        go_roundw
        case rel => exact ⟨i + 1, by omega, by go_num, hB1, hB2, by rw [HX.out]; exact hB3, hbel⟩
        case measure => simp [intOf]; omega
      · have q1 := u8_nt (c := T[i]) (d := 13) 13 rfl h13
        by_cases h10 : T[i] = 10
        · have q2 := u8_nf (c := T[i]) (d := 10) 10 rfl h10
          have HX := Lib.hid (show (s.take (i + 1)).filter line_ = P0 by rw [hfs, h10]; simp [line_])
          clear h13 h10 hfs hsi hP0
          go_wp2_with fail
          go_roundw
          case rel => exact ⟨i + 1, by omega, by go_num, hB1, hB2, by rw [HX.out]; exact hB3, hbel⟩
          case measure => simp [intOf]; omega
        · have q2 := u8_nt (c := T[i]) (d := 10) 10 rfl h10
          have HX := Lib.hid (show (s.take (i + 1)).filter line_ = P0 ++ [T[i]] by rw [hfs, if_pos (by simp [line_, h13, h10])])
          have a1 : ∀ w, (Op.stringOp .add (bs P0) (T.extract i (i + 1))).run Tryd.prog w = .ok (sv (P0 ++ [T[i]])) w := fun w => by
            rw [ext_one T i hiT]; exact add_bs (by simp; omega) w
          have b0 : (0 : Int) ≤ (i : Int) := by omega
          have b1 : (i : Int) ≤ (L : Int) := by omega
          have b2 : (i : Int) ≤ (i : Int) + 1 := by omega
          have b3 : (i : Int) + 1 ≤ (L : Int) := by omega
          have hkw : IntKind.i64.wrap ((i : Int) + 1) = (i : Int) + 1 := by rw [IntKind.wrap_i64]; omega
          have hkn : ((i : Int) + 1).toNat = i + 1 := by omega
          clear h13 h10 hfs hsi hP0
          go_wp2_with fail
          have g1 : Blk (wr.setCell ⟨w.heap.size + 2, 1, none⟩ (sv (P0 ++ [T[i]]))).drew w.heap.size 27 #[.int .i64 1, .string T, .int .i64 n, .slice A N c] := (hB1.far (by simp) _).drew
          have g2 : Blk (wr.setCell ⟨w.heap.size + 2, 1, none⟩ (sv (P0 ++ [T[i]]))).drew (w.heap.size + 1) 27 #[.int .i64 0, .string ⟨#[]⟩, .int .i64 0, .slice none 0 0] := (hB2.far (by simp) _).drew
          have g3 : Blk (wr.setCell ⟨w.heap.size + 2, 1, none⟩ (sv (P0 ++ [T[i]]))).drew (w.heap.size + 2) 27 #[.int .i64 1, sv (P0 ++ [T[i]]), .int .i64 n, .slice none 0 0] := (hB3.set_ 1 _).drew
          have g4 : Below w.heap.size w (wr.setCell ⟨w.heap.size + 2, 1, none⟩ (sv (P0 ++ [T[i]]))).drew := (below_set hbel (by omega) 1 _).drew
          have HG := Lib.hid (And.intro g1 (And.intro g2 (And.intro g3 g4)))
          clear g1 g2 g3 g4
          go_region
          go_wp2_with fail
          go_roundw
          case rel => exact ⟨i + 1, by omega, by go_num, HG.out.1, HG.out.2.1, by rw [HX.out]; exact HG.out.2.2.1, HG.out.2.2.2⟩
          case measure => simp [intOf]; omega
    · have hiL' : i = L := by omega
      subst hiL'
      have hfull : s.take i = s := List.take_of_length_le (by rw [HL.out]; exact Nat.le_refl _)
      rw [hfull] at hB3
      have hfl : (s.filter line_).length ≤ maxLen := Nat.le_trans (List.length_filter_le _ _) (by rw [HL.out]; unfold maxLen; omega)
      obtain ⟨P0, hP0⟩ : ∃ P0, s.filter line_ = P0 := ⟨_, rfl⟩
      rw [hP0] at hB3 HF hfl
      clear hfull hP0
      have b11 := hB1.cell 1
      have k0 := hB2.cell 0
      have k1 := hB2.cell 1
      have k2 := hB2.cell 2
      have k3 := hB2.cell 3
      have z0 := hB2.frozen 0
      have z1 := hB2.frozen 1
      have z2 := hB2.frozen 2
      have z3 := hB2.frozen 3
      have j0 := hB3.cell 0
      have j1 := hB3.cell 1
      have j2 := hB3.cell 2
      have j3 := hB3.cell 3
      go_wp2_with fail
      refine bodyPost_ret (ret_cell1 rfl _ _ (w.heap.size + 1) _ _ _ _ _ rfl (hB2.put4 _ _ _ _)) rfl ?_
      rw [HF.out]
      exact ⟨⟨none, 0, rfl, RV.flat_ (k := 1) (n := n) (by unfold fits; omega) Hn.out hfl⟩, put4_below hbel _ (by omega) _ _ _ _⟩

set_option maxRecDepth 100000 in
set_option maxHeartbeats 8000000 in
theorem plain_line2 (s : List UInt8) (n : Int) (l : List Rep) : PlainAt (.mk 2 s n l) := by
  intro d w cs hok hr
  obtain ⟨hs20, hl4, hsub⟩ := okM_parts hok
  obtain ⟨A, c, xs, rfl, hk1, hn1, hs1, hlc1, hcm1, hd1, hl1⟩ := hr.fields
  simp only [Rep.k, Rep.s, Rep.n, Rep.l] at *
  have HF := Lib.hid (show Rep.pln (.mk 2 s n l) = .mk 2 (s.filter line_) n [] by rw [pln_mk]; simp)
  have Hn := Lib.hid hn1
  have Hs := Lib.hid hs1
  obtain ⟨N, hN⟩ : ∃ N, l.length = N := ⟨_, rfl⟩
  rw [hN] at hr ⊢
  clear hok hd1 hl1 hN hr hsub hlc1
  obtain ⟨L, hL⟩ : ∃ L, s.length = L := ⟨_, rfl⟩
  have HL := Lib.hid hL
  rw [hL] at hs20
  obtain ⟨T, hT⟩ : ∃ T, bs s = T := ⟨_, rfl⟩
  have HT := Lib.hid hT
  have hTs : T.size = L := by rw [← hT, bs_size, hL]
  have HB := Lib.hid (show Below w.heap.size w (((w.alloc (.cells #[.int .i64 2, sv s, .int .i64 n, .slice A N c] 27)).alloc (.cells #[.int .i64 0, .string ⟨#[]⟩, .int .i64 0, .slice none 0 0] 27)).alloc (.cells #[.int .i64 2, .string ⟨#[]⟩, .int .i64 n, .slice none 0 0] 27)) from (((Below.refl _ _).alloc (Nat.le_refl _) _).alloc (by simp) _).alloc (by simp; omega) _)
  have HB1 := Lib.hid (show Blk (((w.alloc (.cells #[.int .i64 2, sv s, .int .i64 n, .slice A N c] 27)).alloc (.cells #[.int .i64 0, .string ⟨#[]⟩, .int .i64 0, .slice none 0 0] 27)).alloc (.cells #[.int .i64 2, .string ⟨#[]⟩, .int .i64 n, .slice none 0 0] 27)) w.heap.size 27 #[.int .i64 2, sv s, .int .i64 n, .slice A N c] from ((Blk.new w _ _).alloc _).alloc _)
  have HB2 := Lib.hid (show Blk (((w.alloc (.cells #[.int .i64 2, sv s, .int .i64 n, .slice A N c] 27)).alloc (.cells #[.int .i64 0, .string ⟨#[]⟩, .int .i64 0, .slice none 0 0] 27)).alloc (.cells #[.int .i64 2, .string ⟨#[]⟩, .int .i64 n, .slice none 0 0] 27)) (w.heap.size + 1) 27 #[.int .i64 0, .string ⟨#[]⟩, .int .i64 0, .slice none 0 0] by
    have := (Blk.new (w.alloc (.cells #[.int .i64 2, sv s, .int .i64 n, .slice A N c] 27)) 27 #[.int .i64 0, .string ⟨#[]⟩, .int .i64 0, .slice none 0 0]).alloc (.cells #[.int .i64 2, .string ⟨#[]⟩, .int .i64 n, .slice none 0 0] 27)
    rwa [World.alloc_size] at this)
  have HB3 := Lib.hid (show Blk (((w.alloc (.cells #[.int .i64 2, sv s, .int .i64 n, .slice A N c] 27)).alloc (.cells #[.int .i64 0, .string ⟨#[]⟩, .int .i64 0, .slice none 0 0] 27)).alloc (.cells #[.int .i64 2, .string ⟨#[]⟩, .int .i64 n, .slice none 0 0] 27)) (w.heap.size + 2) 27 #[.int .i64 2, sv [], .int .i64 n, .slice none 0 0] by
    have h0 := Blk.new ((w.alloc (.cells #[.int .i64 2, sv s, .int .i64 n, .slice A N c] 27)).alloc (.cells #[.int .i64 0, .string ⟨#[]⟩, .int .i64 0, .slice none 0 0] 27)) 27 #[.int .i64 2, .string ⟨#[]⟩, .int .i64 n, .slice none 0 0]
    rwa [World.alloc_size, World.alloc_size] at h0)
  simp only [sv, hT] at HB1
  clear hL hs1
  rw [show sv s = .string T by rw [← hT]] at *
  clear hT
  go_enter Tryd.func14, Tryd.ntmps14
  go_wp2_with fail
  go_loopw [4] (fun x wr => ∃ i, i ≤ L ∧ x = .int .i64 (i : Nat) ∧ Blk wr w.heap.size 27 #[.int .i64 2, .string T, .int .i64 n, .slice A N c] ∧ Blk wr (w.heap.size + 1) 27 #[.int .i64 0, .string ⟨#[]⟩, .int .i64 0, .slice none 0 0] ∧ Blk wr (w.heap.size + 2) 27 #[.int .i64 2, sv ((s.take i).filter line_), .int .i64 n, .slice none 0 0] ∧ Below w.heap.size w wr) (fun x _ => L - (intOf x).toNat)
  case atStart => exact ⟨0, Nat.zero_le _, rfl, HB1.out, HB2.out, by simpa using HB3.out, HB.out⟩
  case round =>
    obtain ⟨i, hiL, rfl, hB1, hB2, hB3, hbel⟩ := hrel
    rcases Nat.lt_or_ge i L with hlt | hge
    · have hlt' : (i : Int) < (L : Int) := by omega
      have hiT : i < T.size := by omega
      have hsi : s[i]? = some T[i] := by
        have e : T.data.toList = s := by rw [← HT.out]; rfl
        rw [← e, List.getElem?_eq_getElem (by rw [bs_len]; exact hiT)]; rfl
      have hfs := filt_succ s i hsi
      obtain ⟨P0, hP0⟩ : ∃ P0, (s.take i).filter line_ = P0 := ⟨_, rfl⟩
      have hP0l : P0.length ≤ 20 := by rw [← hP0]; exact Nat.le_trans (List.length_filter_le _ _) (by rw [List.length_take]; omega)
      rw [hP0] at hfs hB3
      have b11 := hB1.cell 1
      have b31 := hB3.cell 1
      have z31 := hB3.frozen 1
      by_cases h13 : T[i] = 13
      · have q1 := u8_nf (c := T[i]) (d := 13) 13 rfl h13
        have HX := Lib.hid (show (s.take (i + 1)).filter line_ = P0 by rw [hfs, h13]; simp [line_])
        clear h13 hfs hsi hP0
        go_wp2_with fail
        go_roundw
        case rel => exact ⟨i + 1, by omega, by go_num, hB1, hB2, by rw [HX.out]; exact hB3, hbel⟩
        case measure => simp [intOf]; omega
      · have q1 := u8_nt (c := T[i]) (d := 13) 13 rfl h13
        by_cases h10 : T[i] = 10
        · have q2 := u8_nf (c := T[i]) (d := 10) 10 rfl h10
          have HX := Lib.hid (show (s.take (i + 1)).filter line_ = P0 by rw [hfs, h10]; simp [line_])
          clear h13 h10 hfs hsi hP0
          go_wp2_with fail
          go_roundw
          case rel => exact ⟨i + 1, by omega, by go_num, hB1, hB2, by rw [HX.out]; exact hB3, hbel⟩
          case measure => simp [intOf]; omega
        · have q2 := u8_nt (c := T[i]) (d := 10) 10 rfl h10
          have HX := Lib.hid (show (s.take (i + 1)).filter line_ = P0 ++ [T[i]] by rw [hfs, if_pos (by simp [line_, h13, h10])])
          have a1 : ∀ w, (Op.stringOp .add (bs P0) (T.extract i (i + 1))).run Tryd.prog w = .ok (sv (P0 ++ [T[i]])) w := fun w => by
            rw [ext_one T i hiT]; exact add_bs (by simp; omega) w
          have b0 : (0 : Int) ≤ (i : Int) := by omega
          have b1 : (i : Int) ≤ (L : Int) := by omega
          have b2 : (i : Int) ≤ (i : Int) + 1 := by omega
          have b3 : (i : Int) + 1 ≤ (L : Int) := by omega
          have hkw : IntKind.i64.wrap ((i : Int) + 1) = (i : Int) + 1 := by rw [IntKind.wrap_i64]; omega
          have hkn : ((i : Int) + 1).toNat = i + 1 := by omega
          clear h13 h10 hfs hsi hP0
          go_wp2_with fail
          have g1 : Blk (wr.setCell ⟨w.heap.size + 2, 1, none⟩ (sv (P0 ++ [T[i]]))).drew w.heap.size 27 #[.int .i64 2, .string T, .int .i64 n, .slice A N c] := (hB1.far (by simp) _).drew
          have g2 : Blk (wr.setCell ⟨w.heap.size + 2, 1, none⟩ (sv (P0 ++ [T[i]]))).drew (w.heap.size + 1) 27 #[.int .i64 0, .string ⟨#[]⟩, .int .i64 0, .slice none 0 0] := (hB2.far (by simp) _).drew
          have g3 : Blk (wr.setCell ⟨w.heap.size + 2, 1, none⟩ (sv (P0 ++ [T[i]]))).drew (w.heap.size + 2) 27 #[.int .i64 2, sv (P0 ++ [T[i]]), .int .i64 n, .slice none 0 0] := (hB3.set_ 1 _).drew
          have g4 : Below w.heap.size w (wr.setCell ⟨w.heap.size + 2, 1, none⟩ (sv (P0 ++ [T[i]]))).drew := (below_set hbel (by omega) 1 _).drew
          have HG := Lib.hid (And.intro g1 (And.intro g2 (And.intro g3 g4)))
          clear g1 g2 g3 g4
          go_region
          go_wp2_with fail
          go_roundw
          case rel => exact ⟨i + 1, by omega, by go_num, HG.out.1, HG.out.2.1, by rw [HX.out]; exact HG.out.2.2.1, HG.out.2.2.2⟩
          case measure => simp [intOf]; omega
    · have hiL' : i = L := by omega
      subst hiL'
      have hfull : s.take i = s := List.take_of_length_le (by rw [HL.out]; exact Nat.le_refl _)
      rw [hfull] at hB3
      have hfl : (s.filter line_).length ≤ maxLen := Nat.le_trans (List.length_filter_le _ _) (by rw [HL.out]; unfold maxLen; omega)
      obtain ⟨P0, hP0⟩ : ∃ P0, s.filter line_ = P0 := ⟨_, rfl⟩
      rw [hP0] at hB3 HF hfl
      clear hfull hP0
      have b11 := hB1.cell 1
      have k0 := hB2.cell 0
      have k1 := hB2.cell 1
      have k2 := hB2.cell 2
      have k3 := hB2.cell 3
      have z0 := hB2.frozen 0
      have z1 := hB2.frozen 1
      have z2 := hB2.frozen 2
      have z3 := hB2.frozen 3
      have j0 := hB3.cell 0
      have j1 := hB3.cell 1
      have j2 := hB3.cell 2
      have j3 := hB3.cell 3
      go_wp2_with fail
      refine bodyPost_ret (ret_cell1 rfl _ _ (w.heap.size + 1) _ _ _ _ _ rfl (hB2.put4 _ _ _ _)) rfl ?_
      rw [HF.out]
      exact ⟨⟨none, 0, rfl, RV.flat_ (k := 2) (n := n) (by unfold fits; omega) Hn.out hfl⟩, put4_below hbel _ (by omega) _ _ _ _⟩
end Go.Proofs.YtjdnpgdedbegfaaDoor
