/- The walk of put at the kinds with parts. -/
import Derived.Test.YtjdnpgdedbegfaaDoorRspC
import Derived.Test.YtjdnpgdedbegfaaDoorRspQ
namespace Go.Proofs.YtjdnpgdedbegfaaDoor
open Go.RowKit Go.Shelf
set_option linter.unusedVariables false

theorem encs_mono (t : Bool) : ∀ (l : List Rep) (i m : Nat), i ≤ m → (encs t i l).length ≤ (encs t m l).length
  | [], i, m, h => by simp [encs_take]
  | r :: l, 0, m, h => by simp [encs_take]
  | r :: l, i + 1, 0, h => by omega
  | r :: l, i + 1, m + 1, h => by
    have := encs_mono t l i m (by omega)
    rw [encs_take, encs_take] at this ⊢
    simp only [List.take_succ_cons, List.map_cons, List.flatten_cons, List.length_append]; omega
theorem encs_succ (t : Bool) (l : List Rep) (i : Nat) {r : Rep} (h : l[i]? = some r) : encs t (i + 1) l = encs t i l ++ enc t r := by
  obtain ⟨hi, hr⟩ := List.getElem?_eq_some_iff.1 h
  rw [encs_take, encs_take, List.take_succ_eq_append_getElem hi, hr]; simp
theorem encs_zero (t : Bool) (l : List Rep) : encs t 0 l = [] := by rw [encs_take]; simp
theorem encs_count (t : Bool) (l : List Rep) (m : Nat) (h : m ≤ l.length) : m ≤ (encs t m l).length := by
  have := encs_pos t (l.take m)
  rw [List.length_take] at this
  rw [encs_take]; omega

theorem OB.cast {w : World} {B e : Nat} {v : Value} {l l' : List UInt8} (h : OB w B e v l) (he : l = l') : OB w B e v l' := he ▸ h

set_option maxRecDepth 100000 in
set_option maxHeartbeats 8000000 in
theorem put_set3 (s : List UInt8) (n : Int) (l : List Rep) (ih : ∀ r ∈ l, PutAt r) (w : World) (cs : List Value) (B : Nat) (v : Value) (acc : List UInt8) (vn : Int) (hr : RV w (fun b => b < B) (.mk 9 s n l) cs) (hob : OB w B 5 v acc) (hB : B ≤ w.heap.size) (hmy : My w) (hgB : Tryd.lays155_ren.g 1 < B) (hvn : (vn == 3) = true) (hfv : fits vn) (hlen : acc.length + (enc true (.mk 9 s n l)).length ≤ 1048576) :
    Calls Tryd.prog 21 #[v, .agg cs.toArray, .int .i64 vn] w fun e w' => ∃ v', e = .returned v' ∧ OB w' B 5 v' (acc ++ enc true (.mk 9 s n l)) ∧ Below B w w' := by
  obtain ⟨i0, hi, hz0, hz1, hz2⟩ := info_parts u8info
  obtain ⟨A, c, xs, rfl, hk1, hn1, hs1, hlc1, hcm1, hd1, hl1⟩ := hr.fields
  obtain ⟨A2, cc, rfl⟩ := hob.sliceForm
  simp only [Rep.k, Rep.s, Rep.n, Rep.l] at *
  have hel : enc true (.mk 9 s n l) = hdr 126 l.length ++ encs true l.length l := by unfold enc; simp
  have hcount := encs_count true l l.length (Nat.le_refl _)
  have hmono := fun i h => encs_mono true l i l.length h
  rw [hel] at hlen ⊢
  rw [List.length_append] at hlen
  obtain ⟨N, hN⟩ : ∃ N, l.length = N := ⟨_, rfl⟩
  rw [hN] at hlen hcount hlc1 hd1 hmono ⊢
  have HN := Lib.hid hN
  have hh := fun w => head_any 126 N w (by omega)
  obtain ⟨f, hf⟩ : ∃ f, hdr 126 N = f := ⟨_, rfl⟩
  rw [hf] at hlen hh ⊢
  have HH := Lib.hid hh
  have HB1 := Lib.hid ((Below.refl B w).alloc hB (.cells #[.int .i64 9, sv s, .int .i64 n, .slice A N c] 27))
  have hob1 := Own.below hob ((Below.refl w.heap.size w).alloc (Nat.le_refl _) (.cells #[.int .i64 9, sv s, .int .i64 n, .slice A N c] 27)) (fun k hk => (hob.lt k hk).2)
  have HD := Lib.hid hd1
  have HL := Lib.hid hl1
  have HM := Lib.hid hmono
  have hfl : f.length ≤ 1048576 := by omega
  have hafl : acc.length + f.length ≤ 1048576 := by omega
  have hN1 : N ≤ 1048576 := by omega
  have HLen := Lib.hid hlen
  have hc1 : c ≤ 9223372036854775807 := by unfold maxLen at hcm1; omega
  clear hf hh hel hr hd1 hl1 hmono hN hcount hlen hcm1
  go_enter Tryd.func21, Tryd.ntmps21
  go_wp2_with fail
  refine (HH.out _).mono ?_
  rintro e w1 ⟨rfl, hb1⟩
  have hob2 := Own.below_ hob1 hb1
  have hbl := HB1.out.trans (hb1.mono (by simp; omega))
  have hbs1 : B ≤ w1.heap.size := by have := hb1.size; simp at this; omega
  go_wp2_with (at_builtin; refine wpList_append_Own _ rfl (.tmp 77) (.tmp 80) _ _ rfl B 5 i0 _ 1 1 Tryd.underlying23 hi hz0 hz1 hz2 rfl (.slice A2 acc.length cc) acc.length (bv acc) rfl hob2 _ _ _ rfl (Src.str (bs f) Tryd.underlying9) (by rw [bs_size]; unfold maxLen; omega) (by rw [bs_size]; omega) (by omega) ?_; intro v1 w2 hO2 hgr hat)
  rw [bs_size, strCells_bv, bs_data, ← bv_append] at hO2
  have hb2 := hbl.grown hgr hbs1 (fun k hk => (hob2.lt k hk).1)
  have HO := Lib.hid (OB.mk hO2 rfl)
  go_loopw [99, 0] (fun x v wr => ∃ i, i ≤ N ∧ x = .int .i64 (i : Nat) ∧ OB wr B 5 v (acc ++ f ++ encs true i l) ∧ Below B w wr) (fun x _ _ => N - (intOf x).toNat)
  case atStart => exact ⟨0, Nat.zero_le _, rfl, by rw [encs_zero, List.append_nil]; exact HO.out, hb2⟩
  case round =>
    obtain ⟨i, him, rfl, hOi, hbel⟩ := hrel
    rcases Nat.lt_or_ge i N with hlt | hge
    · obtain ⟨a1, r1, E1, f1, rfl, hSa1, hr1, hv1, p0, p1, p2, p3⟩ := (HD.out.keep (fun p hp => hbel.cell hp)).at_ (HL.out.keep (fun p hp => hbel.cell hp)) HN.out hlt
      have hlt' : (i : Int) < (N : Int) := by omega
      have hes := encs_succ true l i hr1
      have hle : acc.length + (f.length + ((encs true i l).length + (enc true r1).length)) ≤ 1048576 := by
        have h1 := HM.out (i + 1) (by omega)
        rw [hes, List.length_append] at h1
        have := HLen.out; omega
      obtain ⟨P, hP⟩ : ∃ P, acc ++ f ++ encs true i l = P := ⟨_, rfl⟩
      have hPl : P.length + (enc true r1).length ≤ 1048576 := by rw [← hP]; simp only [List.length_append]; omega
      have HP := Lib.hid (show P ++ enc true r1 = acc ++ f ++ encs true (i + 1) l by rw [hes, ← hP, List.append_assoc (acc ++ f)])
      rw [hP] at hOi
      obtain ⟨Ai, ci, rfl⟩ := hOi.sliceForm
      have hBr : B ≤ wr.heap.size := Nat.le_trans hB hbel.size
      have HC := Lib.hid (ih r1 (List.mem_of_getElem? hr1) (wr.alloc (.cells #[.int .i64 r1.k, sv r1.s, .int .i64 r1.n, .slice E1 r1.l.length f1] 27)) [.int .i64 r1.k, sv r1.s, .int .i64 r1.n, .slice E1 r1.l.length f1] B _ P true vn (hv1.keep (fun p hp => World.cell?_alloc_lt wr _ p (Nat.lt_of_lt_of_le hp hBr))) (Own.alloc hOi _) (by simp; omega) ((hmy.below hbel hgB).alloc _) hgB hvn hfv hPl)
      have HB2 := Lib.hid (hbel.alloc hBr (.cells #[.int .i64 r1.k, sv r1.s, .int .i64 r1.n, .slice E1 r1.l.length f1] 27))
      clear hes hP hv1 hPl hle 
      go_wp2_with fail
      refine HC.out.mono ?_
      rintro e w3 ⟨v3, rfl, hO3, hb3⟩
      have hO4 := Lib.hid (hO3.cast HP.out)
      have hb4 := HB2.out.trans hb3
      go_wp2_with fail
      go_roundw
      case rel =>
        first
          | exact ⟨i + 1, by omega, by go_num, hO4.out, hb4⟩
          | ((repeat apply Exists.intro); exact ⟨⟨i + 1, by omega, by go_num, hO4.out, hb4⟩, rfl⟩)
      case measure => simp [intOf]; omega
    · obtain ⟨Ai, ci, rfl⟩ := hOi.sliceForm
      go_wp2_with fail
      go_ret
      have hiN : i = N := by omega
      subst hiN
      exact ⟨_, rfl, hOi.cast (List.append_assoc _ _ _), hbel⟩
end Go.Proofs.YtjdnpgdedbegfaaDoor
