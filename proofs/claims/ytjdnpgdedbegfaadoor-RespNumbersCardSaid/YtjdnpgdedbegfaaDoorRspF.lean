import Derived.Test.YtjdnpgdedbegfaaDoorRspC
import Derived.Test.YtjdnpgdedbegfaaDoorRspQ
/- The walk of put at the kinds with parts. -/
namespace Go.Proofs.YtjdnpgdedbegfaaDoor
open Go.RowKit Go.Shelf
set_option linter.unusedVariables false

theorem encs_mono (t : Bool) : ∀ (l : List Rep) (i m : Nat), i ≤ m → (encs t i l).length ≤ (encs t m l).length
  | [], i, m, h => by simp [encs_take]
  | r :: l, 0, m, h => by simp [encs_take]
  | r :: l, i + 1, 0, h => by omega
  | r :: l, i + 1, m + 1, h => by
    have := encs_mono t l i m (by omega)
    rw [encs_take, encs_take] at this ⊢
    simp only [List.take_succ_cons, List.map_cons, List.flatten_cons, List.length_append]; omega
theorem encs_succ (t : Bool) (l : List Rep) (i : Nat) {r : Rep} (h : l[i]? = some r) : encs t (i + 1) l = encs t i l ++ enc t r := by
  obtain ⟨hi, hr⟩ := List.getElem?_eq_some_iff.1 h
  rw [encs_take, encs_take, List.take_succ_eq_append_getElem hi, hr]; simp
theorem encs_zero (t : Bool) (l : List Rep) : encs t 0 l = [] := by rw [encs_take]; simp
theorem encs_count (t : Bool) (l : List Rep) (m : Nat) (h : m ≤ l.length) : m ≤ (encs t m l).length := by
  have := encs_pos t (l.take m)
  rw [List.length_take] at this
  rw [encs_take]; omega

theorem OB.cast {w : World} {B e : Nat} {v : Value} {l l' : List UInt8} (h : OB w B e v l) (he : l = l') : OB w B e v l' := he ▸ h

set_option maxRecDepth 100000 in
set_option maxHeartbeats 8000000 in
theorem put_set3 (s : List UInt8) (n : Int) (l : List Rep) (ih : ∀ r ∈ l, PutAt r) (w : World) (cs : List Value) (B : Nat) (v : Value) (acc : List UInt8) (vn : Int) (hr : RV w (fun b => b < B) (.mk 9 s n l) cs) (hob : OB w B 5 v acc) (hB : B ≤ w.heap.size) (hmy : My w) (hgB : Tryd.lays155_ren.g 1 < B) (hvn : (vn == 3) = true) (hfv : fits vn) (hlen : acc.length + (enc true (.mk 9 s n l)).length ≤ 1048576) :
    Calls Tryd.prog 21 #[v, .agg cs.toArray, .int .i64 vn] w fun e w' => ∃ v', e = .returned v' ∧ OB w' B 5 v' (acc ++ enc true (.mk 9 s n l)) ∧ Below B w w' := by
  obtain ⟨i0, hi, hz0, hz1, hz2⟩ := info_parts u8info
  obtain ⟨A, c, xs, rfl, hk1, hn1, hs1, hlc1, hcm1, hd1, hl1⟩ := hr.fields
  obtain ⟨A2, cc, rfl⟩ := hob.sliceForm
  simp only [Rep.k, Rep.s, Rep.n, Rep.l] at *
  have hel : enc true (.mk 9 s n l) = hdr 126 l.length ++ encs true l.length l := by unfold enc; simp
  have hcount := encs_count true l l.length (Nat.le_refl _)
  have hmono := fun i h => encs_mono true l i l.length h
  rw [hel] at hlen ⊢
  rw [List.length_append] at hlen
  obtain ⟨N, hN⟩ : ∃ N, l.length = N := ⟨_, rfl⟩
  rw [hN] at hlen hcount hlc1 hd1 hmono ⊢
  have HN := Lib.hid hN
  have hh := fun w => head_any 126 N w (by omega)
  obtain ⟨f, hf⟩ : ∃ f, hdr 126 N = f := ⟨_, rfl⟩
  rw [hf] at hlen hh ⊢
  have HH := Lib.hid hh
  have HB1 := Lib.hid ((Below.refl B w).alloc hB (.cells #[.int .i64 9, sv s, .int .i64 n, .slice A N c] 27))
  have hob1 := Own.below hob ((Below.refl w.heap.size w).alloc (Nat.le_refl _) (.cells #[.int .i64 9, sv s, .int .i64 n, .slice A N c] 27)) (fun k hk => (hob.lt k hk).2)
  have HD := Lib.hid hd1
  have HL := Lib.hid hl1
  have HM := Lib.hid hmono
  have hfl : f.length ≤ 1048576 := by omega
  have hafl : acc.length + f.length ≤ 1048576 := by omega
  have hN1 : N ≤ 1048576 := by omega
  have HLen := Lib.hid hlen
  have hc1 : c ≤ 9223372036854775807 := by unfold maxLen at hcm1; omega
  clear hf hh hel hr hd1 hl1 hmono hN hcount hlen hcm1
  go_enter Tryd.func21, Tryd.ntmps21
  go_wp2_with fail
  refine (HH.out _).mono ?_
  rintro e w1 ⟨rfl, hb1⟩
  have hob2 := Own.below_ hob1 hb1
  have hbl := HB1.out.trans (hb1.mono (by simp; omega))
  have hbs1 : B ≤ w1.heap.size := by have := hb1.size; simp at this; omega
  go_wp2_with (at_builtin; refine wpList_append_Own _ rfl (.tmp 77) (.tmp 80) _ _ rfl B 5 i0 _ 1 1 Tryd.underlying23 hi hz0 hz1 hz2 rfl (.slice A2 acc.length cc) acc.length (bv acc) rfl hob2 _ _ _ rfl (Src.str (bs f) Tryd.underlying9) (by rw [bs_size]; unfold maxLen; omega) (by rw [bs_size]; omega) (by omega) ?_; intro v1 w2 hO2 hgr hat)
  rw [bs_size, strCells_bv, bs_data, ← bv_append] at hO2
  have hb2 := hbl.grown hgr hbs1 (fun k hk => (hob2.lt k hk).1)
  have HO := Lib.hid (OB.mk hO2 rfl)
  go_loopw [99, 0] (fun x v wr => ∃ i, i ≤ N ∧ x = .int .i64 (i : Nat) ∧ OB wr B 5 v (acc ++ f ++ encs true i l) ∧ Below B w wr) (fun x _ _ => N - (intOf x).toNat)
  case atStart => exact ⟨0, Nat.zero_le _, rfl, by rw [encs_zero, List.append_nil]; exact HO.out, hb2⟩
  case round =>
    obtain ⟨i, him, rfl, hOi, hbel⟩ := hrel
    rcases Nat.lt_or_ge i N with hlt | hge
    · obtain ⟨a1, r1, E1, f1, rfl, hSa1, hr1, hv1, p0, p1, p2, p3⟩ := (HD.out.keep (fun p hp => hbel.cell hp)).at_ (HL.out.keep (fun p hp => hbel.cell hp)) HN.out hlt
      have hlt' : (i : Int) < (N : Int) := by omega
      have hes := encs_succ true l i hr1
      have hle : acc.length + (f.length + ((encs true i l).length + (enc true r1).length)) ≤ 1048576 := by
        have h1 := HM.out (i + 1) (by omega)
        rw [hes, List.length_append] at h1
        have := HLen.out; omega
      obtain ⟨P, hP⟩ : ∃ P, acc ++ f ++ encs true i l = P := ⟨_, rfl⟩
      have hPl : P.length + (enc true r1).length ≤ 1048576 := by rw [← hP]; simp only [List.length_append]; omega
      have HP := Lib.hid (show P ++ enc true r1 = acc ++ f ++ encs true (i + 1) l by rw [hes, ← hP, List.append_assoc (acc ++ f)])
      rw [hP] at hOi
      obtain ⟨Ai, ci, rfl⟩ := hOi.sliceForm
      have hBr : B ≤ wr.heap.size := Nat.le_trans hB hbel.size
      have HC := Lib.hid (ih r1 (List.mem_of_getElem? hr1) (wr.alloc (.cells #[.int .i64 r1.k, sv r1.s, .int .i64 r1.n, .slice E1 r1.l.length f1] 27)) [.int .i64 r1.k, sv r1.s, .int .i64 r1.n, .slice E1 r1.l.length f1] B _ P true vn (hv1.keep (fun p hp => World.cell?_alloc_lt wr _ p (Nat.lt_of_lt_of_le hp hBr))) (Own.alloc hOi _) (by simp; omega) ((hmy.below hbel hgB).alloc _) hgB hvn hfv hPl)
      have HB2 := Lib.hid (hbel.alloc hBr (.cells #[.int .i64 r1.k, sv r1.s, .int .i64 r1.n, .slice E1 r1.l.length f1] 27))
      clear hes hP hv1 hPl hle 
      go_wp2_with fail
      refine HC.out.mono ?_
      rintro e w3 ⟨v3, rfl, hO3, hb3⟩
      have hO4 := Lib.hid (hO3.cast HP.out)
      have hb4 := HB2.out.trans hb3
      go_wp2_with fail
      go_roundw
      case rel =>
        first
          | exact ⟨i + 1, by omega, by go_num, hO4.out, hb4⟩
          | ((repeat apply Exists.intro); exact ⟨⟨i + 1, by omega, by go_num, hO4.out, hb4⟩, rfl⟩)
      case measure => simp [intOf]; omega
    · obtain ⟨Ai, ci, rfl⟩ := hOi.sliceForm
      go_wp2_with fail
      go_ret
      have hiN : i = N := by omega
      subst hiN
      exact ⟨_, rfl, hOi.cast (List.append_assoc _ _ _), hbel⟩
end Go.Proofs.YtjdnpgdedbegfaaDoor
/- The walk of put at the other kinds with parts; put and Encode, for any reply. -/
namespace Go.Proofs.YtjdnpgdedbegfaaDoor
open Go.RowKit Go.Shelf
set_option linter.unusedVariables false

set_option maxRecDepth 100000 in
set_option maxHeartbeats 8000000 in
theorem put_arr (s : List UInt8) (n : Int) (l : List Rep) (ih : ∀ r ∈ l, PutAt r) (w : World) (cs : List Value) (B : Nat) (v : Value) (acc : List UInt8) (vn : Int) (hr : RV w (fun b => b < B) (.mk 7 s n l) cs) (hob : OB w B 5 v acc) (hB : B ≤ w.heap.size) (hmy : My w) (hgB : Tryd.lays155_ren.g 1 < B) (t : Bool) (hvn : (vn == 3) = t) (hfv : fits vn) (hlen : acc.length + (enc t (.mk 7 s n l)).length ≤ 1048576) :
    Calls Tryd.prog 21 #[v, .agg cs.toArray, .int .i64 vn] w fun e w' => ∃ v', e = .returned v' ∧ OB w' B 5 v' (acc ++ enc t (.mk 7 s n l)) ∧ Below B w w' := by
  obtain ⟨i0, hi, hz0, hz1, hz2⟩ := info_parts u8info
  obtain ⟨A, c, xs, rfl, hk1, hn1, hs1, hlc1, hcm1, hd1, hl1⟩ := hr.fields
  obtain ⟨A2, cc, rfl⟩ := hob.sliceForm
  simp only [Rep.k, Rep.s, Rep.n, Rep.l] at *
  have hel : enc t (.mk 7 s n l) = hdr 42 l.length ++ encs t l.length l := by unfold enc; simp
  have hcount := encs_count t l l.length (Nat.le_refl _)
  have hmono := fun i h => encs_mono t l i l.length h
  rw [hel] at hlen ⊢
  rw [List.length_append] at hlen
  obtain ⟨N, hN⟩ : ∃ N, l.length = N := ⟨_, rfl⟩
  rw [hN] at hlen hcount hlc1 hd1 hmono ⊢
  have HN := Lib.hid hN
  have hh := fun w => head_any 42 N w (by omega)
  obtain ⟨f, hf⟩ : ∃ f, hdr 42 N = f := ⟨_, rfl⟩
  rw [hf] at hlen hh ⊢
  have HH := Lib.hid hh
  have HB1 := Lib.hid ((Below.refl B w).alloc hB (.cells #[.int .i64 7, sv s, .int .i64 n, .slice A N c] 27))
  have hob1 := Own.below hob ((Below.refl w.heap.size w).alloc (Nat.le_refl _) (.cells #[.int .i64 7, sv s, .int .i64 n, .slice A N c] 27)) (fun k hk => (hob.lt k hk).2)
  have HD := Lib.hid hd1
  have HL := Lib.hid hl1
  have HM := Lib.hid hmono
  have hfl : f.length ≤ 1048576 := by omega
  have hafl : acc.length + f.length ≤ 1048576 := by omega
  have hN1 : N ≤ 1048576 := by omega
  have HLen := Lib.hid hlen
  have hc1 : c ≤ 9223372036854775807 := by unfold maxLen at hcm1; omega
  clear hf hh hel hr hd1 hl1 hmono hN hcount hlen hcm1
  go_enter Tryd.func21, Tryd.ntmps21
  go_wp2_with fail
  refine (HH.out _).mono ?_
  rintro e w1 ⟨rfl, hb1⟩
  have hob2 := Own.below_ hob1 hb1
  have hbl := HB1.out.trans (hb1.mono (by simp; omega))
  have hbs1 : B ≤ w1.heap.size := by have := hb1.size; simp at this; omega
  go_wp2_with (at_builtin; refine wpList_append_Own _ rfl (.tmp 82) (.tmp 85) _ _ rfl B 5 i0 _ 1 1 Tryd.underlying23 hi hz0 hz1 hz2 rfl (.slice A2 acc.length cc) acc.length (bv acc) rfl hob2 _ _ _ rfl (Src.str (bs f) Tryd.underlying9) (by rw [bs_size]; unfold maxLen; omega) (by rw [bs_size]; omega) (by omega) ?_; intro v1 w2 hO2 hgr hat)
  rw [bs_size, strCells_bv, bs_data, ← bv_append] at hO2
  have hb2 := hbl.grown hgr hbs1 (fun k hk => (hob2.lt k hk).1)
  have HO := Lib.hid (OB.mk hO2 rfl)
  go_loopw [99, 0] (fun x v wr => ∃ i, i ≤ N ∧ x = .int .i64 (i : Nat) ∧ OB wr B 5 v (acc ++ f ++ encs t i l) ∧ Below B w wr) (fun x _ _ => N - (intOf x).toNat)
  case atStart => exact ⟨0, Nat.zero_le _, rfl, by rw [encs_zero, List.append_nil]; exact HO.out, hb2⟩
  case round =>
    obtain ⟨i, him, rfl, hOi, hbel⟩ := hrel
    rcases Nat.lt_or_ge i N with hlt | hge
    · obtain ⟨a1, r1, E1, f1, rfl, hSa1, hr1, hv1, p0, p1, p2, p3⟩ := (HD.out.keep (fun p hp => hbel.cell hp)).at_ (HL.out.keep (fun p hp => hbel.cell hp)) HN.out hlt
      have hlt' : (i : Int) < (N : Int) := by omega
      have hes := encs_succ t l i hr1
      have hle : acc.length + (f.length + ((encs t i l).length + (enc t r1).length)) ≤ 1048576 := by
        have h1 := HM.out (i + 1) (by omega)
        rw [hes, List.length_append] at h1
        have := HLen.out; omega
      obtain ⟨P, hP⟩ : ∃ P, acc ++ f ++ encs t i l = P := ⟨_, rfl⟩
      have hPl : P.length + (enc t r1).length ≤ 1048576 := by rw [← hP]; simp only [List.length_append]; omega
      have HP := Lib.hid (show P ++ enc t r1 = acc ++ f ++ encs t (i + 1) l by rw [hes, ← hP, List.append_assoc (acc ++ f)])
      rw [hP] at hOi
      obtain ⟨Ai, ci, rfl⟩ := hOi.sliceForm
      have hBr : B ≤ wr.heap.size := Nat.le_trans hB hbel.size
      have HC := Lib.hid (ih r1 (List.mem_of_getElem? hr1) (wr.alloc (.cells #[.int .i64 r1.k, sv r1.s, .int .i64 r1.n, .slice E1 r1.l.length f1] 27)) [.int .i64 r1.k, sv r1.s, .int .i64 r1.n, .slice E1 r1.l.length f1] B _ P t vn (hv1.keep (fun p hp => World.cell?_alloc_lt wr _ p (Nat.lt_of_lt_of_le hp hBr))) (Own.alloc hOi _) (by simp; omega) ((hmy.below hbel hgB).alloc _) hgB hvn hfv hPl)
      have HB2 := Lib.hid (hbel.alloc hBr (.cells #[.int .i64 r1.k, sv r1.s, .int .i64 r1.n, .slice E1 r1.l.length f1] 27))
      clear hes hP hv1 hPl hle 
      go_wp2_with fail
      refine HC.out.mono ?_
      rintro e w3 ⟨v3, rfl, hO3, hb3⟩
      have hO4 := Lib.hid (hO3.cast HP.out)
      have hb4 := HB2.out.trans hb3
      go_wp2_with fail
      go_roundw
      case rel =>
        first
          | exact ⟨i + 1, by omega, by go_num, hO4.out, hb4⟩
          | ((repeat apply Exists.intro); exact ⟨⟨i + 1, by omega, by go_num, hO4.out, hb4⟩, rfl⟩)
      case measure => simp [intOf]; omega
    · obtain ⟨Ai, ci, rfl⟩ := hOi.sliceForm
      go_wp2_with fail
      go_ret
      have hiN : i = N := by omega
      subst hiN
      exact ⟨_, rfl, hOi.cast (List.append_assoc _ _ _), hbel⟩

set_option maxRecDepth 100000 in
set_option maxHeartbeats 8000000 in
theorem put_map2 (s : List UInt8) (n : Int) (l : List Rep) (ih : ∀ r ∈ l, PutAt r) (w : World) (cs : List Value) (B : Nat) (v : Value) (acc : List UInt8) (vn : Int) (hr : RV w (fun b => b < B) (.mk 8 s n l) cs) (hob : OB w B 5 v acc) (hB : B ≤ w.heap.size) (hmy : My w) (hgB : Tryd.lays155_ren.g 1 < B) (hvn : (vn == 3) = false) (hfv : fits vn) (hlen : acc.length + (enc false (.mk 8 s n l)).length ≤ 1048576) :
    Calls Tryd.prog 21 #[v, .agg cs.toArray, .int .i64 vn] w fun e w' => ∃ v', e = .returned v' ∧ OB w' B 5 v' (acc ++ enc false (.mk 8 s n l)) ∧ Below B w w' := by
  obtain ⟨i0, hi, hz0, hz1, hz2⟩ := info_parts u8info
  obtain ⟨A, c, xs, rfl, hk1, hn1, hs1, hlc1, hcm1, hd1, hl1⟩ := hr.fields
  obtain ⟨A2, cc, rfl⟩ := hob.sliceForm
  simp only [Rep.k, Rep.s, Rep.n, Rep.l] at *
  have hel : enc false (.mk 8 s n l) = hdr 42 l.length ++ encs false l.length l := by unfold enc; simp
  have hcount := encs_count false l l.length (Nat.le_refl _)
  have hmono := fun i h => encs_mono false l i l.length h
  rw [hel] at hlen ⊢
  rw [List.length_append] at hlen
  obtain ⟨N, hN⟩ : ∃ N, l.length = N := ⟨_, rfl⟩
  rw [hN] at hlen hcount hlc1 hd1 hmono ⊢
  have HN := Lib.hid hN
  have hh := fun w => head_any 42 N w (by omega)
  obtain ⟨f, hf⟩ : ∃ f, hdr 42 N = f := ⟨_, rfl⟩
  rw [hf] at hlen hh ⊢
  have HH := Lib.hid hh
  have HB1 := Lib.hid ((Below.refl B w).alloc hB (.cells #[.int .i64 8, sv s, .int .i64 n, .slice A N c] 27))
  have hob1 := Own.below hob ((Below.refl w.heap.size w).alloc (Nat.le_refl _) (.cells #[.int .i64 8, sv s, .int .i64 n, .slice A N c] 27)) (fun k hk => (hob.lt k hk).2)
  have HD := Lib.hid hd1
  have HL := Lib.hid hl1
  have HM := Lib.hid hmono
  have hfl : f.length ≤ 1048576 := by omega
  have hafl : acc.length + f.length ≤ 1048576 := by omega
  have hN1 : N ≤ 1048576 := by omega
  have HLen := Lib.hid hlen
  have hc1 : c ≤ 9223372036854775807 := by unfold maxLen at hcm1; omega
  clear hf hh hel hr hd1 hl1 hmono hN hcount hlen hcm1
  go_enter Tryd.func21, Tryd.ntmps21
  go_wp2_with fail
  refine (HH.out _).mono ?_
  rintro e w1 ⟨rfl, hb1⟩
  have hob2 := Own.below_ hob1 hb1
  have hbl := HB1.out.trans (hb1.mono (by simp; omega))
  have hbs1 : B ≤ w1.heap.size := by have := hb1.size; simp at this; omega
  go_wp2_with (at_builtin; refine wpList_append_Own _ rfl (.tmp 82) (.tmp 85) _ _ rfl B 5 i0 _ 1 1 Tryd.underlying23 hi hz0 hz1 hz2 rfl (.slice A2 acc.length cc) acc.length (bv acc) rfl hob2 _ _ _ rfl (Src.str (bs f) Tryd.underlying9) (by rw [bs_size]; unfold maxLen; omega) (by rw [bs_size]; omega) (by omega) ?_; intro v1 w2 hO2 hgr hat)
  rw [bs_size, strCells_bv, bs_data, ← bv_append] at hO2
  have hb2 := hbl.grown hgr hbs1 (fun k hk => (hob2.lt k hk).1)
  have HO := Lib.hid (OB.mk hO2 rfl)
  go_loopw [99, 0] (fun x v wr => ∃ i, i ≤ N ∧ x = .int .i64 (i : Nat) ∧ OB wr B 5 v (acc ++ f ++ encs false i l) ∧ Below B w wr) (fun x _ _ => N - (intOf x).toNat)
  case atStart => exact ⟨0, Nat.zero_le _, rfl, by rw [encs_zero, List.append_nil]; exact HO.out, hb2⟩
  case round =>
    obtain ⟨i, him, rfl, hOi, hbel⟩ := hrel
    rcases Nat.lt_or_ge i N with hlt | hge
    · obtain ⟨a1, r1, E1, f1, rfl, hSa1, hr1, hv1, p0, p1, p2, p3⟩ := (HD.out.keep (fun p hp => hbel.cell hp)).at_ (HL.out.keep (fun p hp => hbel.cell hp)) HN.out hlt
      have hlt' : (i : Int) < (N : Int) := by omega
      have hes := encs_succ false l i hr1
      have hle : acc.length + (f.length + ((encs false i l).length + (enc false r1).length)) ≤ 1048576 := by
        have h1 := HM.out (i + 1) (by omega)
        rw [hes, List.length_append] at h1
        have := HLen.out; omega
      obtain ⟨P, hP⟩ : ∃ P, acc ++ f ++ encs false i l = P := ⟨_, rfl⟩
      have hPl : P.length + (enc false r1).length ≤ 1048576 := by rw [← hP]; simp only [List.length_append]; omega
      have HP := Lib.hid (show P ++ enc false r1 = acc ++ f ++ encs false (i + 1) l by rw [hes, ← hP, List.append_assoc (acc ++ f)])
      rw [hP] at hOi
      obtain ⟨Ai, ci, rfl⟩ := hOi.sliceForm
      have hBr : B ≤ wr.heap.size := Nat.le_trans hB hbel.size
      have HC := Lib.hid (ih r1 (List.mem_of_getElem? hr1) (wr.alloc (.cells #[.int .i64 r1.k, sv r1.s, .int .i64 r1.n, .slice E1 r1.l.length f1] 27)) [.int .i64 r1.k, sv r1.s, .int .i64 r1.n, .slice E1 r1.l.length f1] B _ P false vn (hv1.keep (fun p hp => World.cell?_alloc_lt wr _ p (Nat.lt_of_lt_of_le hp hBr))) (Own.alloc hOi _) (by simp; omega) ((hmy.below hbel hgB).alloc _) hgB hvn hfv hPl)
      have HB2 := Lib.hid (hbel.alloc hBr (.cells #[.int .i64 r1.k, sv r1.s, .int .i64 r1.n, .slice E1 r1.l.length f1] 27))
      clear hes hP hv1 hPl hle 
      go_wp2_with fail
      refine HC.out.mono ?_
      rintro e w3 ⟨v3, rfl, hO3, hb3⟩
      have hO4 := Lib.hid (hO3.cast HP.out)
      have hb4 := HB2.out.trans hb3
      go_wp2_with fail
      go_roundw
      case rel =>
        first
          | exact ⟨i + 1, by omega, by go_num, hO4.out, hb4⟩
          | ((repeat apply Exists.intro); exact ⟨⟨i + 1, by omega, by go_num, hO4.out, hb4⟩, rfl⟩)
      case measure => simp [intOf]; omega
    · obtain ⟨Ai, ci, rfl⟩ := hOi.sliceForm
      go_wp2_with fail
      go_ret
      have hiN : i = N := by omega
      subst hiN
      exact ⟨_, rfl, hOi.cast (List.append_assoc _ _ _), hbel⟩

set_option maxRecDepth 100000 in
set_option maxHeartbeats 8000000 in
theorem put_set2 (s : List UInt8) (n : Int) (l : List Rep) (ih : ∀ r ∈ l, PutAt r) (w : World) (cs : List Value) (B : Nat) (v : Value) (acc : List UInt8) (vn : Int) (hr : RV w (fun b => b < B) (.mk 9 s n l) cs) (hob : OB w B 5 v acc) (hB : B ≤ w.heap.size) (hmy : My w) (hgB : Tryd.lays155_ren.g 1 < B) (hvn : (vn == 3) = false) (hfv : fits vn) (hlen : acc.length + (enc false (.mk 9 s n l)).length ≤ 1048576) :
    Calls Tryd.prog 21 #[v, .agg cs.toArray, .int .i64 vn] w fun e w' => ∃ v', e = .returned v' ∧ OB w' B 5 v' (acc ++ enc false (.mk 9 s n l)) ∧ Below B w w' := by
  obtain ⟨i0, hi, hz0, hz1, hz2⟩ := info_parts u8info
  obtain ⟨A, c, xs, rfl, hk1, hn1, hs1, hlc1, hcm1, hd1, hl1⟩ := hr.fields
  obtain ⟨A2, cc, rfl⟩ := hob.sliceForm
  simp only [Rep.k, Rep.s, Rep.n, Rep.l] at *
  have hel : enc false (.mk 9 s n l) = hdr 42 l.length ++ encs false l.length l := by unfold enc; simp
  have hcount := encs_count false l l.length (Nat.le_refl _)
  have hmono := fun i h => encs_mono false l i l.length h
  rw [hel] at hlen ⊢
  rw [List.length_append] at hlen
  obtain ⟨N, hN⟩ : ∃ N, l.length = N := ⟨_, rfl⟩
  rw [hN] at hlen hcount hlc1 hd1 hmono ⊢
  have HN := Lib.hid hN
  have hh := fun w => head_any 42 N w (by omega)
  obtain ⟨f, hf⟩ : ∃ f, hdr 42 N = f := ⟨_, rfl⟩
  rw [hf] at hlen hh ⊢
  have HH := Lib.hid hh
  have HB1 := Lib.hid ((Below.refl B w).alloc hB (.cells #[.int .i64 9, sv s, .int .i64 n, .slice A N c] 27))
  have hob1 := Own.below hob ((Below.refl w.heap.size w).alloc (Nat.le_refl _) (.cells #[.int .i64 9, sv s, .int .i64 n, .slice A N c] 27)) (fun k hk => (hob.lt k hk).2)
  have HD := Lib.hid hd1
  have HL := Lib.hid hl1
  have HM := Lib.hid hmono
  have hfl : f.length ≤ 1048576 := by omega
  have hafl : acc.length + f.length ≤ 1048576 := by omega
  have hN1 : N ≤ 1048576 := by omega
  have HLen := Lib.hid hlen
  have hc1 : c ≤ 9223372036854775807 := by unfold maxLen at hcm1; omega
  clear hf hh hel hr hd1 hl1 hmono hN hcount hlen hcm1
  go_enter Tryd.func21, Tryd.ntmps21
  go_wp2_with fail
  refine (HH.out _).mono ?_
  rintro e w1 ⟨rfl, hb1⟩
  have hob2 := Own.below_ hob1 hb1
  have hbl := HB1.out.trans (hb1.mono (by simp; omega))
  have hbs1 : B ≤ w1.heap.size := by have := hb1.size; simp at this; omega
  go_wp2_with (at_builtin; refine wpList_append_Own _ rfl (.tmp 82) (.tmp 85) _ _ rfl B 5 i0 _ 1 1 Tryd.underlying23 hi hz0 hz1 hz2 rfl (.slice A2 acc.length cc) acc.length (bv acc) rfl hob2 _ _ _ rfl (Src.str (bs f) Tryd.underlying9) (by rw [bs_size]; unfold maxLen; omega) (by rw [bs_size]; omega) (by omega) ?_; intro v1 w2 hO2 hgr hat)
  rw [bs_size, strCells_bv, bs_data, ← bv_append] at hO2
  have hb2 := hbl.grown hgr hbs1 (fun k hk => (hob2.lt k hk).1)
  have HO := Lib.hid (OB.mk hO2 rfl)
  go_loopw [99, 0] (fun x v wr => ∃ i, i ≤ N ∧ x = .int .i64 (i : Nat) ∧ OB wr B 5 v (acc ++ f ++ encs false i l) ∧ Below B w wr) (fun x _ _ => N - (intOf x).toNat)
  case atStart => exact ⟨0, Nat.zero_le _, rfl, by rw [encs_zero, List.append_nil]; exact HO.out, hb2⟩
  case round =>
    obtain ⟨i, him, rfl, hOi, hbel⟩ := hrel
    rcases Nat.lt_or_ge i N with hlt | hge
    · obtain ⟨a1, r1, E1, f1, rfl, hSa1, hr1, hv1, p0, p1, p2, p3⟩ := (HD.out.keep (fun p hp => hbel.cell hp)).at_ (HL.out.keep (fun p hp => hbel.cell hp)) HN.out hlt
      have hlt' : (i : Int) < (N : Int) := by omega
      have hes := encs_succ false l i hr1
      have hle : acc.length + (f.length + ((encs false i l).length + (enc false r1).length)) ≤ 1048576 := by
        have h1 := HM.out (i + 1) (by omega)
        rw [hes, List.length_append] at h1
        have := HLen.out; omega
      obtain ⟨P, hP⟩ : ∃ P, acc ++ f ++ encs false i l = P := ⟨_, rfl⟩
      have hPl : P.length + (enc false r1).length ≤ 1048576 := by rw [← hP]; simp only [List.length_append]; omega
      have HP := Lib.hid (show P ++ enc false r1 = acc ++ f ++ encs false (i + 1) l by rw [hes, ← hP, List.append_assoc (acc ++ f)])
      rw [hP] at hOi
      obtain ⟨Ai, ci, rfl⟩ := hOi.sliceForm
      have hBr : B ≤ wr.heap.size := Nat.le_trans hB hbel.size
      have HC := Lib.hid (ih r1 (List.mem_of_getElem? hr1) (wr.alloc (.cells #[.int .i64 r1.k, sv r1.s, .int .i64 r1.n, .slice E1 r1.l.length f1] 27)) [.int .i64 r1.k, sv r1.s, .int .i64 r1.n, .slice E1 r1.l.length f1] B _ P false vn (hv1.keep (fun p hp => World.cell?_alloc_lt wr _ p (Nat.lt_of_lt_of_le hp hBr))) (Own.alloc hOi _) (by simp; omega) ((hmy.below hbel hgB).alloc _) hgB hvn hfv hPl)
      have HB2 := Lib.hid (hbel.alloc hBr (.cells #[.int .i64 r1.k, sv r1.s, .int .i64 r1.n, .slice E1 r1.l.length f1] 27))
      clear hes hP hv1 hPl hle 
      go_wp2_with fail
      refine HC.out.mono ?_
      rintro e w3 ⟨v3, rfl, hO3, hb3⟩
      have hO4 := Lib.hid (hO3.cast HP.out)
      have hb4 := HB2.out.trans hb3
      go_wp2_with fail
      go_roundw
      case rel =>
        first
          | exact ⟨i + 1, by omega, by go_num, hO4.out, hb4⟩
          | ((repeat apply Exists.intro); exact ⟨⟨i + 1, by omega, by go_num, hO4.out, hb4⟩, rfl⟩)
      case measure => simp [intOf]; omega
    · obtain ⟨Ai, ci, rfl⟩ := hOi.sliceForm
      go_wp2_with fail
      go_ret
      have hiN : i = N := by omega
      subst hiN
      exact ⟨_, rfl, hOi.cast (List.append_assoc _ _ _), hbel⟩
end Go.Proofs.YtjdnpgdedbegfaaDoor
/- The walk of put at a map in version 3; put and Encode, for any reply. -/
namespace Go.Proofs.YtjdnpgdedbegfaaDoor
open Go.RowKit Go.Shelf
set_option linter.unusedVariables false

set_option maxRecDepth 100000 in
set_option maxHeartbeats 8000000 in
theorem put_map3 (s : List UInt8) (n : Int) (l : List Rep) (ih : ∀ r ∈ l, PutAt r) (w : World) (cs : List Value) (B : Nat) (v : Value) (acc : List UInt8) (vn : Int) (hr : RV w (fun b => b < B) (.mk 8 s n l) cs) (hob : OB w B 5 v acc) (hB : B ≤ w.heap.size) (hmy : My w) (hgB : Tryd.lays155_ren.g 1 < B) (hvn : (vn == 3) = true) (hfv : fits vn) (hlen : acc.length + (enc true (.mk 8 s n l)).length ≤ 1048576) :
    Calls Tryd.prog 21 #[v, .agg cs.toArray, .int .i64 vn] w fun e w' => ∃ v', e = .returned v' ∧ OB w' B 5 v' (acc ++ enc true (.mk 8 s n l)) ∧ Below B w w' := by
  obtain ⟨i0, hi, hz0, hz1, hz2⟩ := info_parts u8info
  obtain ⟨A, c, xs, rfl, hk1, hn1, hs1, hlc1, hcm1, hd1, hl1⟩ := hr.fields
  obtain ⟨A2, cc, rfl⟩ := hob.sliceForm
  simp only [Rep.k, Rep.s, Rep.n, Rep.l] at *
  have hel : enc true (.mk 8 s n l) = hdr 37 (l.length / 2) ++ encs true (2 * (l.length / 2)) l := by unfold enc; simp
  have hcount := encs_count true l (2 * (l.length / 2)) (by omega)
  have hmono := fun i h => encs_mono true l i (2 * (l.length / 2)) h
  rw [hel] at hlen ⊢
  rw [List.length_append] at hlen
  obtain ⟨N, hN⟩ : ∃ N, l.length = N := ⟨_, rfl⟩
  rw [hN] at hlen hcount hlc1 hd1 hmono ⊢
  have HN := Lib.hid hN
  obtain ⟨h, hh0⟩ : ∃ h, N / 2 = h := ⟨_, rfl⟩
  rw [hh0] at hlen hcount hmono ⊢
  obtain ⟨M, hM0⟩ : ∃ M, 2 * h = M := ⟨_, rfl⟩
  rw [hM0] at hlen hcount hmono ⊢
  have HQ := Lib.hid (show (N : Int) / 2 = (h : Int) by omega)
  have hMN : M ≤ N := by omega
  have hh := fun w => head_any 37 h w (by omega)
  obtain ⟨f, hf⟩ : ∃ f, hdr 37 h = f := ⟨_, rfl⟩
  rw [hf] at hlen hh ⊢
  have HH := Lib.hid hh
  have HB1 := Lib.hid ((Below.refl B w).alloc hB (.cells #[.int .i64 8, sv s, .int .i64 n, .slice A N c] 27))
  have hob1 := Own.below hob ((Below.refl w.heap.size w).alloc (Nat.le_refl _) (.cells #[.int .i64 8, sv s, .int .i64 n, .slice A N c] 27)) (fun k hk => (hob.lt k hk).2)
  have HD := Lib.hid hd1
  have HL := Lib.hid hl1
  have HM := Lib.hid hmono
  have hfl : f.length ≤ 1048576 := by omega
  have hafl : acc.length + f.length ≤ 1048576 := by omega
  have hN1 : M ≤ 1048576 := by omega
  have HKW := Lib.hid (show IntKind.i64.wrap (2 * (h : Int)) = (M : Int) by rw [IntKind.wrap_i64]; omega)
  have hMc : (M : Int) ≤ (c : Int) := by omega
  have hM1 : (0 : Int) ≤ (M : Int) := by omega
  have HLen := Lib.hid hlen
  have hc1 : c ≤ 9223372036854775807 := by unfold maxLen at hcm1; omega
  clear hf hh hel hr hd1 hl1 hmono hN hcount hlen hcm1 hh0 hM0
  go_enter Tryd.func21, Tryd.ntmps21
  go_wp2_with fail
  rw [HQ.out]
  obtain ⟨w0, hw0⟩ : ∃ w0, (w.alloc (.cells #[.int .i64 8, sv s, .int .i64 n, .slice A N c] 27)) = w0 := ⟨_, rfl⟩
  rw [hw0] at HB1 hob1 ⊢
  have hbs0 : B ≤ w0.heap.size := Nat.le_trans hB HB1.out.size
  have hS0 : Below w0.heap.size w0 w0 := Below.refl _ _
  have hkw := HKW.out
  clear hw0
  go_region_held3 (fun w' => Below B w0 w') (first | exact hcx | exact hS0.mono hbs0 | exact hS0.drew.mono hbs0)
    (first
      | (go_at_call 32; refine (HH.out _).mono ?_; rintro e w1 ⟨rfl, hb1⟩; have hS0 := below_trans hS0.drew hb1; have hob2 := Own.below_ hob1 hS0; have hbs1 : B ≤ w1.heap.size := Nat.le_trans hbs0 hS0.size)
      | (refine step_append_Own _ rfl (.tmp 67) (.tmp 69) _ _ rfl B 5 i0 _ 1 1 Tryd.underlying23 hi hz0 hz1 hz2 rfl (.slice A2 acc.length cc) acc.length (bv acc) rfl hob2 _ _ _ rfl (Src.str (bs f) Tryd.underlying9) (by rw [bs_size]; unfold maxLen; omega) (by rw [bs_size]; omega) (by omega) ?_; intro v1 w2 hO2 hgr hat; have hcx := (hS0.mono hbs0).grown hgr hbs1 (fun k hk => (hob2.lt k hk).1)))
  clear hkw
  go_wp2_with fail
  rw [bs_size, strCells_bv, bs_data, ← bv_append] at hO2
  have hb2 := HB1.out.trans hcx
  have HO := Lib.hid (OB.mk hO2 rfl)
  go_loopw [99, 0] (fun x v wr => ∃ i, i ≤ M ∧ x = .int .i64 (i : Nat) ∧ OB wr B 5 v (acc ++ f ++ encs true i l) ∧ Below B w wr) (fun x _ _ => M - (intOf x).toNat)
  case atStart => exact ⟨0, Nat.zero_le _, rfl, by rw [encs_zero, List.append_nil]; exact HO.out, hb2⟩
  case round =>
    obtain ⟨i, him, rfl, hOi, hbel⟩ := hrel
    rcases Nat.lt_or_ge i M with hlt | hge
    · obtain ⟨a1, r1, E1, f1, rfl, hSa1, hr1, hv1, p0, p1, p2, p3⟩ := (HD.out.keep (fun p hp => hbel.cell hp)).at_ (HL.out.keep (fun p hp => hbel.cell hp)) HN.out (Nat.lt_of_lt_of_le hlt hMN)
      have hlt' : (i : Int) < (M : Int) := by omega
      have hes := encs_succ true l i hr1
      have hle : acc.length + (f.length + ((encs true i l).length + (enc true r1).length)) ≤ 1048576 := by
        have h1 := HM.out (i + 1) (by omega)
        rw [hes, List.length_append] at h1
        have := HLen.out; omega
      obtain ⟨P, hP⟩ : ∃ P, acc ++ f ++ encs true i l = P := ⟨_, rfl⟩
      have hPl : P.length + (enc true r1).length ≤ 1048576 := by rw [← hP]; simp only [List.length_append]; omega
      have HP := Lib.hid (show P ++ enc true r1 = acc ++ f ++ encs true (i + 1) l by rw [hes, ← hP, List.append_assoc (acc ++ f)])
      rw [hP] at hOi
      obtain ⟨Ai, ci, rfl⟩ := hOi.sliceForm
      have hBr : B ≤ wr.heap.size := Nat.le_trans hB hbel.size
      have HC := Lib.hid (ih r1 (List.mem_of_getElem? hr1) (wr.alloc (.cells #[.int .i64 r1.k, sv r1.s, .int .i64 r1.n, .slice E1 r1.l.length f1] 27)) [.int .i64 r1.k, sv r1.s, .int .i64 r1.n, .slice E1 r1.l.length f1] B _ P true vn (hv1.keep (fun p hp => World.cell?_alloc_lt wr _ p (Nat.lt_of_lt_of_le hp hBr))) (Own.alloc hOi _) (by simp; omega) ((hmy.below hbel hgB).alloc _) hgB hvn hfv hPl)
      have HB2 := Lib.hid (hbel.alloc hBr (.cells #[.int .i64 r1.k, sv r1.s, .int .i64 r1.n, .slice E1 r1.l.length f1] 27))
      clear hes hP hv1 hPl hle 
      go_wp2_with fail
      refine HC.out.mono ?_
      rintro e w3 ⟨v3, rfl, hO3, hb3⟩
      have hO4 := Lib.hid (hO3.cast HP.out)
      have hb4 := HB2.out.trans hb3
      go_wp2_with fail
      go_roundw
      case rel =>
        first
          | exact ⟨i + 1, by omega, by go_num, hO4.out, hb4⟩
          | ((repeat apply Exists.intro); exact ⟨⟨i + 1, by omega, by go_num, hO4.out, hb4⟩, rfl⟩)
      case measure => simp [intOf]; omega
    · obtain ⟨Ai, ci, rfl⟩ := hOi.sliceForm
      go_wp2_with fail
      go_ret
      have hiN : i = M := by omega
      subst hiN
      exact ⟨_, rfl, hOi.cast (List.append_assoc _ _ _), hbel⟩

set_option maxHeartbeats 1000000 in
theorem put_any : ∀ (N : Nat) (r : Rep), SizeOf.sizeOf r ≤ N → PutAt r
  | 0, r, h => by cases r; simp at h
  | N + 1, .mk k s n l, h => by
    have ih : ∀ r ∈ l, PutAt r := fun r hr => put_any N r (by have := sizeOf_mem (k := k) (n := n) (s := s) hr; omega)
    by_cases h1 : k = 1
    · subst h1; exact put_simple s n l
    by_cases h2 : k = 2
    · subst h2; exact put_error s n l
    by_cases h3 : k = 3
    · subst h3; exact put_int s n l
    by_cases h4 : k = 4
    · subst h4; exact put_bulk s n l
    by_cases h7 : k = 7
    · subst h7
      intro w cs B v acc t vn hr hob hB hmy hgB hvn hfv hlen
      exact put_arr s n l ih w cs B v acc vn hr hob hB hmy hgB t hvn hfv hlen
    by_cases h8 : k = 8
    · subst h8
      intro w cs B v acc t vn hr hob hB hmy hgB hvn hfv hlen
      cases t with
      | true => exact put_map3 s n l ih w cs B v acc vn hr hob hB hmy hgB hvn hfv hlen
      | false => exact put_map2 s n l ih w cs B v acc vn hr hob hB hmy hgB hvn hfv hlen
    by_cases h9 : k = 9
    · subst h9
      intro w cs B v acc t vn hr hob hB hmy hgB hvn hfv hlen
      cases t with
      | true => exact put_set3 s n l ih w cs B v acc vn hr hob hB hmy hgB hvn hfv hlen
      | false => exact put_set2 s n l ih w cs B v acc vn hr hob hB hmy hgB hvn hfv hlen
    by_cases h6 : k = 6
    · subst h6
      intro w cs B v acc t vn hr hob hB hmy hgB hvn hfv hlen
      cases t with
      | true => exact put_null3 6 (by decide) (by decide) (by decide) (by decide) (by decide) (by decide) (by decide) s n l w cs B v acc vn hr hob hB hvn hlen
      | false => exact put_na2 s n l w cs B v acc vn hr hob hB hvn hlen
    intro w cs B v acc t vn hr hob hB hmy hgB hvn hfv hlen
    cases t with
    | true => exact put_null3 k h1 h2 h3 h4 h7 h8 h9 s n l w cs B v acc vn hr hob hB hvn hlen
    | false => exact put_null2 k h1 h2 h3 h4 h6 h7 h8 h9 s n l w cs B v acc vn hr hob hB hvn hlen

set_option maxRecDepth 100000 in
theorem encode_any (r : Rep) (vn : Int) (t : Bool) (w : World) (cs : List Value) (hr : Liv w r cs) (hmy : My w) (hvn : (vn == 3) = t) (hfv : fits vn) (hlen : (enc t r).length ≤ 1048576) :
    Calls Tryd.prog 9 #[.agg cs.toArray, .int .i64 vn] w fun e w' => ∃ v', e = .returned v' ∧ OB w' w.heap.size 5 v' (enc t r) ∧ Below w.heap.size w w' := by
  obtain ⟨A, c, xs, rfl, hk1, hn1, hs1, hlc1, hcm1, hd1, hl1⟩ := hr.fields
  have HB := Lib.hid ((Below.refl w.heap.size w).alloc (Nat.le_refl _) (.cells #[.int .i64 r.k, sv r.s, .int .i64 r.n, .slice A r.l.length c] 27))
  have HC := Lib.hid (put_any _ r (Nat.le_refl _) (w.alloc (.cells #[.int .i64 r.k, sv r.s, .int .i64 r.n, .slice A r.l.length c] 27)) [.int .i64 r.k, sv r.s, .int .i64 r.n, .slice A r.l.length c] w.heap.size (.slice none 0 0) [] t vn (hr.keep (fun p hp => World.cell?_alloc_lt w _ p hp)) (OB.nil _ _ _) (by simp) (hmy.alloc _) hmy.lt hvn hfv (by simpa using hlen))
  clear hr hmy hvn hlen hk1 hn1 hs1 hlc1 hcm1 hd1 hl1
  go_enter Tryd.func9, Tryd.ntmps9
  go_wp2_with fail
  refine HC.out.mono ?_
  rintro e w1 ⟨v1, rfl, hO1, hb1⟩
  go_wp2_with fail
  go_ret
  exact ⟨_, rfl, by simpa using hO1, HB.out.trans hb1⟩
end Go.Proofs.YtjdnpgdedbegfaaDoor
