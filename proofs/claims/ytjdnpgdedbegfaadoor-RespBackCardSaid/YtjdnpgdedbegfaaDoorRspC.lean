/- The walk of put at the kinds that are null. -/
import Derived.Test.YtjdnpgdedbegfaaDoorRspB
namespace Go.Proofs.YtjdnpgdedbegfaaDoor
open Go.RowKit Go.Shelf
set_option linter.unusedVariables false

set_option maxRecDepth 100000 in
set_option maxHeartbeats 4000000 in
theorem put_na2 (s : List UInt8) (n : Int) (l : List Rep) (w : World) (cs : List Value) (B : Nat) (v : Value) (acc : List UInt8) (vn : Int) (hr : RV w (fun b => b < B) (.mk 6 s n l) cs) (hob : OB w B 5 v acc) (hB : B ≤ w.heap.size) (hvn : (vn == 3) = false) (hlen : acc.length + (enc false (.mk 6 s n l)).length ≤ 1048576) :
    Calls Tryd.prog 21 #[v, .agg cs.toArray, .int .i64 vn] w fun e w' => ∃ v', e = .returned v' ∧ OB w' B 5 v' (acc ++ enc false (.mk 6 s n l)) ∧ Below B w w' := by
  obtain ⟨i0, hi, hz0, hz1, hz2⟩ := info_parts u8info
  obtain ⟨A, c, xs, rfl, hk1, hn1, hs1, hlc1, hcm1, hd1, hl1⟩ := hr.fields
  obtain ⟨A2, cc, rfl⟩ := hob.sliceForm
  simp only [Rep.k, Rep.s, Rep.n, Rep.l] at *
  have hel : enc false (.mk 6 s n l) = [42, 45, 49, 13, 10] := by unfold enc; simp
  rw [hel] at hlen ⊢
  have hmb : (bs [42, 45, 49, 13, 10]).size = 5 := rfl
  have hal : acc.length + 5 ≤ 1048576 := hlen
  have hvm : (vn != 3) = true := by rw [bne, hvn]; rfl
  have HB1 := (Below.refl B w).alloc hB (.cells #[.int .i64 6, sv s, .int .i64 n, .slice A l.length c] 27)
  have hob1 := Own.below hob ((Below.refl w.heap.size w).alloc (Nat.le_refl _) (.cells #[.int .i64 6, sv s, .int .i64 n, .slice A l.length c] 27)) (fun k hk => (hob.lt k hk).2)
  have hbs1 := Nat.le_trans hB HB1.size
  clear hel hlen hr hd1 hl1
  go_enter Tryd.func21, Tryd.ntmps21
  go_wp2_with (at_builtin; refine wpList_append_Own _ rfl (.tmp 89) _ _ _ rfl B 5 i0 _ 1 1 Tryd.underlying23 hi hz0 hz1 hz2 rfl (.slice A2 acc.length cc) acc.length (bv acc) rfl hob1 _ _ _ rfl (Src.str (bs [42, 45, 49, 13, 10]) Tryd.underlying9) (by rw [hmb]; unfold maxLen; omega) (by rw [hmb]; omega) (by omega) ?_; intro v1 w2 hO2 hgr hat)
  all_goals
    rw [hmb, strCells_bv, bs_data, ← bv_append] at hO2
    go_ret
    exact ⟨_, rfl, OB.mk hO2 rfl, HB1.grown hgr hbs1 (fun k hk => (hob1.lt k hk).1)⟩

set_option maxRecDepth 100000 in
set_option maxHeartbeats 4000000 in
theorem put_null2 (k : Int) (h1 : k ≠ 1) (h2 : k ≠ 2) (h3 : k ≠ 3) (h4 : k ≠ 4) (h6 : k ≠ 6) (h7 : k ≠ 7) (h8 : k ≠ 8) (h9 : k ≠ 9) (s : List UInt8) (n : Int) (l : List Rep) (w : World) (cs : List Value) (B : Nat) (v : Value) (acc : List UInt8) (vn : Int) (hr : RV w (fun b => b < B) (.mk k s n l) cs) (hob : OB w B 5 v acc) (hB : B ≤ w.heap.size) (hvn : (vn == 3) = false) (hlen : acc.length + (enc false (.mk k s n l)).length ≤ 1048576) :
    Calls Tryd.prog 21 #[v, .agg cs.toArray, .int .i64 vn] w fun e w' => ∃ v', e = .returned v' ∧ OB w' B 5 v' (acc ++ enc false (.mk k s n l)) ∧ Below B w w' := by
  obtain ⟨i0, hi, hz0, hz1, hz2⟩ := info_parts u8info
  obtain ⟨A, c, xs, rfl, hk1, hn1, hs1, hlc1, hcm1, hd1, hl1⟩ := hr.fields
  obtain ⟨A2, cc, rfl⟩ := hob.sliceForm
  simp only [Rep.k, Rep.s, Rep.n, Rep.l] at *
  have hel : enc false (.mk k s n l) = [36, 45, 49, 13, 10] := by
    unfold enc
    rw [if_neg h1, if_neg h2, if_neg h3, if_neg h4, if_neg (fun h => h8 h.1), if_neg (fun h => h9 h.1), if_neg (by omega)]
    rw [if_neg (by decide), if_neg h6]
  have e1 : (k == 1) = false := by simpa using h1
  have e2 : (k == 2) = false := by simpa using h2
  have e3 : (k == 3) = false := by simpa using h3
  have e4 : (k == 4) = false := by simpa using h4
  have e6 : (k == 6) = false := by simpa using h6
  have e7 : (k == 7) = false := by simpa using h7
  have e8 : (k == 8) = false := by simpa using h8
  have e9 : (k == 9) = false := by simpa using h9
  clear h1 h2 h3 h4 h6 h7 h8 h9
  rw [hel] at hlen ⊢
  have hmb : (bs [36, 45, 49, 13, 10]).size = 5 := rfl
  have hal : acc.length + 5 ≤ 1048576 := hlen
  have hvm : (vn != 3) = true := by rw [bne, hvn]; rfl
  have HB1 := (Below.refl B w).alloc hB (.cells #[.int .i64 k, sv s, .int .i64 n, .slice A l.length c] 27)
  have hob1 := Own.below hob ((Below.refl w.heap.size w).alloc (Nat.le_refl _) (.cells #[.int .i64 k, sv s, .int .i64 n, .slice A l.length c] 27)) (fun k hk => (hob.lt k hk).2)
  have hbs1 := Nat.le_trans hB HB1.size
  clear hel hlen hr hd1 hl1
  go_enter Tryd.func21, Tryd.ntmps21
  go_wp2_with (at_builtin; refine wpList_append_Own _ rfl (.tmp 93) _ _ _ rfl B 5 i0 _ 1 1 Tryd.underlying23 hi hz0 hz1 hz2 rfl (.slice A2 acc.length cc) acc.length (bv acc) rfl hob1 _ _ _ rfl (Src.str (bs [36, 45, 49, 13, 10]) Tryd.underlying9) (by rw [hmb]; unfold maxLen; omega) (by rw [hmb]; omega) (by omega) ?_; intro v1 w2 hO2 hgr hat)
  all_goals
    rw [hmb, strCells_bv, bs_data, ← bv_append] at hO2
    go_ret
    exact ⟨_, rfl, OB.mk hO2 rfl, HB1.grown hgr hbs1 (fun k hk => (hob1.lt k hk).1)⟩

set_option maxRecDepth 100000 in
set_option maxHeartbeats 4000000 in
theorem put_null3 (k : Int) (h1 : k ≠ 1) (h2 : k ≠ 2) (h3 : k ≠ 3) (h4 : k ≠ 4) (h7 : k ≠ 7) (h8 : k ≠ 8) (h9 : k ≠ 9) (s : List UInt8) (n : Int) (l : List Rep) (w : World) (cs : List Value) (B : Nat) (v : Value) (acc : List UInt8) (vn : Int) (hr : RV w (fun b => b < B) (.mk k s n l) cs) (hob : OB w B 5 v acc) (hB : B ≤ w.heap.size) (hvn : (vn == 3) = true) (hlen : acc.length + (enc true (.mk k s n l)).length ≤ 1048576) :
    Calls Tryd.prog 21 #[v, .agg cs.toArray, .int .i64 vn] w fun e w' => ∃ v', e = .returned v' ∧ OB w' B 5 v' (acc ++ enc true (.mk k s n l)) ∧ Below B w w' := by
  obtain ⟨i0, hi, hz0, hz1, hz2⟩ := info_parts u8info
  obtain ⟨A, c, xs, rfl, hk1, hn1, hs1, hlc1, hcm1, hd1, hl1⟩ := hr.fields
  obtain ⟨A2, cc, rfl⟩ := hob.sliceForm
  simp only [Rep.k, Rep.s, Rep.n, Rep.l] at *
  have hel : enc true (.mk k s n l) = [95, 13, 10] := by
    unfold enc
    rw [if_neg h1, if_neg h2, if_neg h3, if_neg h4, if_neg (fun h => h8 h.1), if_neg (fun h => h9 h.1), if_neg (by omega)]
    rfl
  have e1 : (k == 1) = false := by simpa using h1
  have e2 : (k == 2) = false := by simpa using h2
  have e3 : (k == 3) = false := by simpa using h3
  have e4 : (k == 4) = false := by simpa using h4
  have e7 : (k == 7) = false := by simpa using h7
  have e8 : (k == 8) = false := by simpa using h8
  have e9 : (k == 9) = false := by simpa using h9
  clear h1 h2 h3 h4 h7 h8 h9
  rw [hel] at hlen ⊢
  have hmb : (bs [95, 13, 10]).size = 3 := rfl
  have hal : acc.length + 3 ≤ 1048576 := hlen
  have hvm : (vn != 3) = false := by rw [bne, hvn]; rfl
  have HB1 := (Below.refl B w).alloc hB (.cells #[.int .i64 k, sv s, .int .i64 n, .slice A l.length c] 27)
  have hob1 := Own.below hob ((Below.refl w.heap.size w).alloc (Nat.le_refl _) (.cells #[.int .i64 k, sv s, .int .i64 n, .slice A l.length c] 27)) (fun k hk => (hob.lt k hk).2)
  have hbs1 := Nat.le_trans hB HB1.size
  clear hel hlen hr hd1 hl1
  go_enter Tryd.func21, Tryd.ntmps21
  go_wp2_with (at_builtin; refine wpList_append_Own _ rfl (.tmp 95) _ _ _ rfl B 5 i0 _ 1 1 Tryd.underlying23 hi hz0 hz1 hz2 rfl (.slice A2 acc.length cc) acc.length (bv acc) rfl hob1 _ _ _ rfl (Src.str (bs [95, 13, 10]) Tryd.underlying9) (by rw [hmb]; unfold maxLen; omega) (by rw [hmb]; omega) (by omega) ?_; intro v1 w2 hO2 hgr hat)
  all_goals
    rw [hmb, strCells_bv, bs_data, ← bv_append] at hO2
    go_ret
    exact ⟨_, rfl, OB.mk hO2 rfl, HB1.grown hgr hbs1 (fun k hk => (hob1.lt k hk).1)⟩
end Go.Proofs.YtjdnpgdedbegfaaDoor
