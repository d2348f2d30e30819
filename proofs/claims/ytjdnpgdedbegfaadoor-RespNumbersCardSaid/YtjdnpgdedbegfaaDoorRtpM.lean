import Derived.Test.YtjdnpgdedbegfaaDoorRtpH
import Derived.Test.YtjdnpgdedbegfaaDoorRtpK
/- The walk of the reference's Flat at the kinds without parts or lines. -/
namespace Go.Proofs.YtjdnpgdedbegfaaDoor
open Go.RowKit Go.Shelf
set_option linter.unusedVariables false

/-- What the reference's Flat asks and gives. -/
def RFlatAt (r : Rep) : Prop := ∀ (d : Nat) (w : World) (cs : List Value), okF d r → Liv w r cs →
  Calls Tryd.prog 26 #[.agg cs.toArray] w fun e w' => FRet w w' e r.flat ∧ Below w.heap.size w w'
set_option maxRecDepth 100000 in
set_option maxHeartbeats 8000000 in
theorem rflat_int (s : List UInt8) (n : Int) (l : List Rep) : RFlatAt (.mk 3 s n l) := by
  intro d w cs hok hr
  obtain ⟨A, c, xs, rfl, hk1, hn1, hs1, hlc1, hcm1, hd1, hl1⟩ := hr.fields
  simp only [Rep.k, Rep.s, Rep.n, Rep.l] at *
  have HF := Lib.hid (show Rep.flat (.mk 3 s n l) = .mk 3 [] n [] by rw [flat_mk]; simp)
  have Hn := Lib.hid hn1
  clear hr hd1 hl1 hok
  go_enter Tryd.func26, Tryd.ntmps26
  go_wp2_with fail
  have hB2x : Blk ((w.alloc (.cells #[.int .i64 3, sv s, .int .i64 n, .slice A l.length c] 27)).alloc (.cells #[.int .i64 3, .string ⟨#[]⟩, .int .i64 n, .slice none 0 0] 27)) (w.heap.size + 1) 27 #[.int .i64 3, .string ⟨#[]⟩, .int .i64 n, .slice none 0 0] := by
    have := Blk.new (w.alloc (.cells #[.int .i64 3, sv s, .int .i64 n, .slice A l.length c] 27)) 27 #[.int .i64 3, .string ⟨#[]⟩, .int .i64 n, .slice none 0 0]
    simpa using this
  refine bodyPost_ret (ret_cell1 rfl _ _ (w.heap.size + 1) _ _ _ _ _ rfl hB2x) rfl ?_
  rw [HF.out]
  exact ⟨⟨none, 0, rfl, RV.flat_ (k := 3) (n := n) (by unfold fits; omega) Hn.out (Nat.zero_le _)⟩, ((Below.refl _ _).alloc (Nat.le_refl _) _).alloc (by simp) _⟩
set_option maxRecDepth 100000 in
set_option maxHeartbeats 8000000 in
theorem rflat_bulk (s : List UInt8) (n : Int) (l : List Rep) : RFlatAt (.mk 4 s n l) := by
  intro d w cs hok hr
  obtain ⟨A, c, xs, rfl, hk1, hn1, hs1, hlc1, hcm1, hd1, hl1⟩ := hr.fields
  simp only [Rep.k, Rep.s, Rep.n, Rep.l] at *
  have HF := Lib.hid (show Rep.flat (.mk 4 s n l) = .mk 4 s 0 [] by rw [flat_mk]; simp)
  have Hn := Lib.hid hn1
  clear hr hd1 hl1 hok
  go_enter Tryd.func26, Tryd.ntmps26
  go_wp2_with fail
  have hB2x : Blk ((w.alloc (.cells #[.int .i64 4, sv s, .int .i64 n, .slice A l.length c] 27)).alloc (.cells #[.int .i64 4, sv s, .int .i64 0, .slice none 0 0] 27)) (w.heap.size + 1) 27 #[.int .i64 4, sv s, .int .i64 0, .slice none 0 0] := by
    have := Blk.new (w.alloc (.cells #[.int .i64 4, sv s, .int .i64 n, .slice A l.length c] 27)) 27 #[.int .i64 4, sv s, .int .i64 0, .slice none 0 0]
    simpa using this
  refine bodyPost_ret (ret_cell1 rfl _ _ (w.heap.size + 1) _ _ _ _ _ rfl hB2x) rfl ?_
  rw [HF.out]
  exact ⟨⟨none, 0, rfl, RV.flat_ (k := 4) (n := 0) (by unfold fits; omega) (by unfold fits; omega) hs1⟩, ((Below.refl _ _).alloc (Nat.le_refl _) _).alloc (by simp) _⟩
set_option maxRecDepth 100000 in
set_option maxHeartbeats 8000000 in
theorem rflat_na (s : List UInt8) (n : Int) (l : List Rep) : RFlatAt (.mk 6 s n l) := by
  intro d w cs hok hr
  obtain ⟨A, c, xs, rfl, hk1, hn1, hs1, hlc1, hcm1, hd1, hl1⟩ := hr.fields
  simp only [Rep.k, Rep.s, Rep.n, Rep.l] at *
  have HF := Lib.hid (show Rep.flat (.mk 6 s n l) = .mk 6 [] 0 [] by rw [flat_mk]; simp)
  have Hn := Lib.hid hn1
  clear hr hd1 hl1 hok
  go_enter Tryd.func26, Tryd.ntmps26
  go_wp2_with fail
  have hB2x : Blk ((w.alloc (.cells #[.int .i64 6, sv s, .int .i64 n, .slice A l.length c] 27)).alloc (.cells #[.int .i64 6, .string ⟨#[]⟩, .int .i64 0, .slice none 0 0] 27)) (w.heap.size + 1) 27 #[.int .i64 6, .string ⟨#[]⟩, .int .i64 0, .slice none 0 0] := by
    have := Blk.new (w.alloc (.cells #[.int .i64 6, sv s, .int .i64 n, .slice A l.length c] 27)) 27 #[.int .i64 6, .string ⟨#[]⟩, .int .i64 0, .slice none 0 0]
    simpa using this
  refine bodyPost_ret (ret_cell1 rfl _ _ (w.heap.size + 1) _ _ _ _ _ rfl hB2x) rfl ?_
  rw [HF.out]
  exact ⟨⟨none, 0, rfl, RV.flat_ (k := 6) (n := 0) (by unfold fits; omega) (by unfold fits; omega) (Nat.zero_le _)⟩, ((Below.refl _ _).alloc (Nat.le_refl _) _).alloc (by simp) _⟩
set_option maxRecDepth 100000 in
set_option maxHeartbeats 8000000 in
theorem rflat_null (k : Int) (h1 : k ≠ 1) (h2 : k ≠ 2) (h3 : k ≠ 3) (h4 : k ≠ 4) (h6 : k ≠ 6) (h7 : k ≠ 7) (h8 : k ≠ 8) (h9 : k ≠ 9) (s : List UInt8) (n : Int) (l : List Rep) : RFlatAt (.mk k s n l) := by
  intro d w cs hok hr
  obtain ⟨A, c, xs, rfl, hk1, hn1, hs1, hlc1, hcm1, hd1, hl1⟩ := hr.fields
  simp only [Rep.k, Rep.s, Rep.n, Rep.l] at *
  have HF := Lib.hid (show Rep.flat (.mk k s n l) = .mk 5 [] 0 [] by rw [flat_mk]; rw [if_neg (by omega), if_neg (by omega), if_neg (by omega), if_neg (by omega), if_neg (by omega)])
  have Hn := Lib.hid hn1
  have b1 : (k == 1) = false := by simpa using h1
  have b2 : (k == 2) = false := by simpa using h2
  have b3 : (k == 3) = false := by simpa using h3
  have b4 : (k == 4) = false := by simpa using h4
  have b6 : (k == 6) = false := by simpa using h6
  have b7 : (k == 7) = false := by simpa using h7
  have b8 : (k == 8) = false := by simpa using h8
  have b9 : (k == 9) = false := by simpa using h9
  clear hr hd1 hl1 hok
  go_enter Tryd.func26, Tryd.ntmps26
  go_wp2_with fail
  have hB2x : Blk ((w.alloc (.cells #[.int .i64 k, sv s, .int .i64 n, .slice A l.length c] 27)).alloc (.cells #[.int .i64 5, .string ⟨#[]⟩, .int .i64 0, .slice none 0 0] 27)) (w.heap.size + 1) 27 #[.int .i64 5, .string ⟨#[]⟩, .int .i64 0, .slice none 0 0] := by
    have := Blk.new (w.alloc (.cells #[.int .i64 k, sv s, .int .i64 n, .slice A l.length c] 27)) 27 #[.int .i64 5, .string ⟨#[]⟩, .int .i64 0, .slice none 0 0]
    simpa using this
  refine bodyPost_ret (ret_cell1 rfl _ _ (w.heap.size + 1) _ _ _ _ _ rfl hB2x) rfl ?_
  rw [HF.out]
  exact ⟨⟨none, 0, rfl, RV.flat_ (k := 5) (n := 0) (by unfold fits; omega) (by unfold fits; omega) (Nat.zero_le _)⟩, ((Below.refl _ _).alloc (Nat.le_refl _) _).alloc (by simp) _⟩
end Go.Proofs.YtjdnpgdedbegfaaDoor
/- The walk of the reference's Flat at the kinds of one line. -/
namespace Go.Proofs.YtjdnpgdedbegfaaDoor
open Go.RowKit Go.Shelf
set_option linter.unusedVariables false

theorem far4 {w : World} {h g : Nat} {a b c d a' b' c' d' : Value}
    (x : w.cell? ⟨h, 0, none⟩ = some a ∧ w.cell? ⟨h, 1, none⟩ = some b ∧ w.cell? ⟨h, 2, none⟩ = some c ∧ w.cell? ⟨h, 3, none⟩ = some d) (hne : h ≠ g) :
    (put4 w g a' b' c' d').cell? ⟨h, 0, none⟩ = some a ∧ (put4 w g a' b' c' d').cell? ⟨h, 1, none⟩ = some b ∧ (put4 w g a' b' c' d').cell? ⟨h, 2, none⟩ = some c ∧ (put4 w g a' b' c' d').cell? ⟨h, 3, none⟩ = some d := by
  have k := fun (i : Nat) => put4_cell w g a' b' c' d' ⟨h, i, none⟩ hne
  exact ⟨(k 0).trans x.1, (k 1).trans x.2.1, (k 2).trans x.2.2.1, (k 3).trans x.2.2.2⟩
set_option maxRecDepth 100000 in
set_option maxHeartbeats 8000000 in
theorem rflat_line1 (s : List UInt8) (n : Int) (l : List Rep) : RFlatAt (.mk 1 s n l) := by
  intro d w cs hok hr
  have hs : s.length ≤ 100000 := by cases d with
    | zero => exact hok.2.2.1
    | succ d => exact hok.2.2.1
  obtain ⟨A, c, xs, rfl, hk1, hn1, hs1, hlc1, hcm1, hd1, hl1⟩ := hr.fields
  simp only [Rep.k, Rep.s, Rep.n, Rep.l] at *
  have HF := Lib.hid (show Rep.flat (.mk 1 s n l) = .mk 1 (cln s) 0 [] by rw [flat_mk]; simp)
  have HL := Lib.hid (fun w' => ref_line s w' (by omega))
  have hb2 : Below w.heap.size w ((w.alloc (.cells #[.int .i64 1, sv s, .int .i64 n, .slice A l.length c] 27)).alloc (.cells #[.int .i64 0, .string ⟨#[]⟩, .int .i64 0, .slice none 0 0] 27)) := ((Below.refl _ _).alloc (Nat.le_refl _) _).alloc (by simp) _
  have hB1 : Blk ((w.alloc (.cells #[.int .i64 1, sv s, .int .i64 n, .slice A l.length c] 27)).alloc (.cells #[.int .i64 0, .string ⟨#[]⟩, .int .i64 0, .slice none 0 0] 27)) w.heap.size 27 #[.int .i64 1, sv s, .int .i64 n, .slice A l.length c] := (Blk.new w 27 #[.int .i64 1, sv s, .int .i64 n, .slice A l.length c]).alloc _
  have hB2 : Blk ((w.alloc (.cells #[.int .i64 1, sv s, .int .i64 n, .slice A l.length c] 27)).alloc (.cells #[.int .i64 0, .string ⟨#[]⟩, .int .i64 0, .slice none 0 0] 27)) (w.heap.size + 1) 27 #[.int .i64 0, .string ⟨#[]⟩, .int .i64 0, .slice none 0 0] := by
    have := Blk.new (w.alloc (.cells #[.int .i64 1, sv s, .int .i64 n, .slice A l.length c] 27)) 27 #[.int .i64 0, .string ⟨#[]⟩, .int .i64 0, .slice none 0 0]
    simpa using this
  have HK := Lib.hid (fun (w' : World) (hb : Below ((w.alloc (.cells #[.int .i64 1, sv s, .int .i64 n, .slice A l.length c] 27)).alloc (.cells #[.int .i64 0, .string ⟨#[]⟩, .int .i64 0, .slice none 0 0] 27)).heap.size ((w.alloc (.cells #[.int .i64 1, sv s, .int .i64 n, .slice A l.length c] 27)).alloc (.cells #[.int .i64 0, .string ⟨#[]⟩, .int .i64 0, .slice none 0 0] 27)) w') => (hB1.below hb hB1.lt).x4)
  have HB2 := Lib.hid hB2
  have HBb := Lib.hid hb2
  have hT0 : Below ((w.alloc (.cells #[.int .i64 1, sv s, .int .i64 n, .slice A l.length c] 27)).alloc (.cells #[.int .i64 0, .string ⟨#[]⟩, .int .i64 0, .slice none 0 0] 27)).heap.size ((w.alloc (.cells #[.int .i64 1, sv s, .int .i64 n, .slice A l.length c] 27)).alloc (.cells #[.int .i64 0, .string ⟨#[]⟩, .int .i64 0, .slice none 0 0] 27)) ((w.alloc (.cells #[.int .i64 1, sv s, .int .i64 n, .slice A l.length c] 27)).alloc (.cells #[.int .i64 0, .string ⟨#[]⟩, .int .i64 0, .slice none 0 0] 27)) := Below.refl _ _
  clear hr hd1 hl1 hok hb2 hB1 hB2
  go_enter Tryd.func26, Tryd.ntmps26
  go_wp2_with fail
  go_region_held (fun w' => (w'.cell? ⟨w.heap.size, 0, none⟩ = some (.int .i64 1) ∧ w'.cell? ⟨w.heap.size, 1, none⟩ = some (sv s) ∧ w'.cell? ⟨w.heap.size, 2, none⟩ = some (.int .i64 n) ∧ w'.cell? ⟨w.heap.size, 3, none⟩ = some (.slice A l.length c))) (first | exact HK.out _ hT0 | exact HK.out _ hT0.drew | exact far4 (HK.out _ hT1) (by omega))
    (first | (go_at_call 27; refine (HL.out _).mono ?_; rintro e w1 ⟨rfl, hb1⟩; have hT1 := below_trans hT0.drew hb1; have hT0 := hT1; have hB2w := HB2.out.below hT1 HB2.out.lt; have m0 := hB2w.cell 0; have mz0 := hB2w.frozen 0; have m1 := hB2w.cell 1; have mz1 := hB2w.frozen 1; have m2 := hB2w.cell 2; have mz2 := hB2w.frozen 2; have m3 := hB2w.cell 3; have mz3 := hB2w.frozen 3; have HB2w := Lib.hid hB2w; clear hB2w))
  all_goals
    go_wp2_with fail
    refine bodyPost_ret (ret_cell1 rfl _ _ (w.heap.size + 1) _ _ _ _ _ rfl (HB2w.out.put4 _ _ _ _)) rfl ?_
    rw [HF.out]
    exact ⟨⟨none, 0, rfl, RV.flat_ (k := 1) (n := 0) (by unfold fits; omega) (by unfold fits; omega) (by rw [cln_len]; exact hs1)⟩, put4_below (HBb.out.trans (hT1.mono HBb.out.size)) _ (by omega) _ _ _ _⟩
set_option maxRecDepth 100000 in
set_option maxHeartbeats 8000000 in
theorem rflat_line2 (s : List UInt8) (n : Int) (l : List Rep) : RFlatAt (.mk 2 s n l) := by
  intro d w cs hok hr
  have hs : s.length ≤ 100000 := by cases d with
    | zero => exact hok.2.2.1
    | succ d => exact hok.2.2.1
  obtain ⟨A, c, xs, rfl, hk1, hn1, hs1, hlc1, hcm1, hd1, hl1⟩ := hr.fields
  simp only [Rep.k, Rep.s, Rep.n, Rep.l] at *
  have HF := Lib.hid (show Rep.flat (.mk 2 s n l) = .mk 2 (cln s) 0 [] by rw [flat_mk]; simp)
  have HL := Lib.hid (fun w' => ref_line s w' (by omega))
  have hb2 : Below w.heap.size w ((w.alloc (.cells #[.int .i64 2, sv s, .int .i64 n, .slice A l.length c] 27)).alloc (.cells #[.int .i64 0, .string ⟨#[]⟩, .int .i64 0, .slice none 0 0] 27)) := ((Below.refl _ _).alloc (Nat.le_refl _) _).alloc (by simp) _
  have hB1 : Blk ((w.alloc (.cells #[.int .i64 2, sv s, .int .i64 n, .slice A l.length c] 27)).alloc (.cells #[.int .i64 0, .string ⟨#[]⟩, .int .i64 0, .slice none 0 0] 27)) w.heap.size 27 #[.int .i64 2, sv s, .int .i64 n, .slice A l.length c] := (Blk.new w 27 #[.int .i64 2, sv s, .int .i64 n, .slice A l.length c]).alloc _
  have hB2 : Blk ((w.alloc (.cells #[.int .i64 2, sv s, .int .i64 n, .slice A l.length c] 27)).alloc (.cells #[.int .i64 0, .string ⟨#[]⟩, .int .i64 0, .slice none 0 0] 27)) (w.heap.size + 1) 27 #[.int .i64 0, .string ⟨#[]⟩, .int .i64 0, .slice none 0 0] := by
    have := Blk.new (w.alloc (.cells #[.int .i64 2, sv s, .int .i64 n, .slice A l.length c] 27)) 27 #[.int .i64 0, .string ⟨#[]⟩, .int .i64 0, .slice none 0 0]
    simpa using this
  have HK := Lib.hid (fun (w' : World) (hb : Below ((w.alloc (.cells #[.int .i64 2, sv s, .int .i64 n, .slice A l.length c] 27)).alloc (.cells #[.int .i64 0, .string ⟨#[]⟩, .int .i64 0, .slice none 0 0] 27)).heap.size ((w.alloc (.cells #[.int .i64 2, sv s, .int .i64 n, .slice A l.length c] 27)).alloc (.cells #[.int .i64 0, .string ⟨#[]⟩, .int .i64 0, .slice none 0 0] 27)) w') => (hB1.below hb hB1.lt).x4)
  have HB2 := Lib.hid hB2
  have HBb := Lib.hid hb2
  have hT0 : Below ((w.alloc (.cells #[.int .i64 2, sv s, .int .i64 n, .slice A l.length c] 27)).alloc (.cells #[.int .i64 0, .string ⟨#[]⟩, .int .i64 0, .slice none 0 0] 27)).heap.size ((w.alloc (.cells #[.int .i64 2, sv s, .int .i64 n, .slice A l.length c] 27)).alloc (.cells #[.int .i64 0, .string ⟨#[]⟩, .int .i64 0, .slice none 0 0] 27)) ((w.alloc (.cells #[.int .i64 2, sv s, .int .i64 n, .slice A l.length c] 27)).alloc (.cells #[.int .i64 0, .string ⟨#[]⟩, .int .i64 0, .slice none 0 0] 27)) := Below.refl _ _
  clear hr hd1 hl1 hok hb2 hB1 hB2
  go_enter Tryd.func26, Tryd.ntmps26
  go_wp2_with fail
  go_region_held (fun w' => (w'.cell? ⟨w.heap.size, 0, none⟩ = some (.int .i64 2) ∧ w'.cell? ⟨w.heap.size, 1, none⟩ = some (sv s) ∧ w'.cell? ⟨w.heap.size, 2, none⟩ = some (.int .i64 n) ∧ w'.cell? ⟨w.heap.size, 3, none⟩ = some (.slice A l.length c))) (first | exact HK.out _ hT0 | exact HK.out _ hT0.drew | exact far4 (HK.out _ hT1) (by omega))
    (first | (go_at_call 27; refine (HL.out _).mono ?_; rintro e w1 ⟨rfl, hb1⟩; have hT1 := below_trans hT0.drew hb1; have hT0 := hT1; have hB2w := HB2.out.below hT1 HB2.out.lt; have m0 := hB2w.cell 0; have mz0 := hB2w.frozen 0; have m1 := hB2w.cell 1; have mz1 := hB2w.frozen 1; have m2 := hB2w.cell 2; have mz2 := hB2w.frozen 2; have m3 := hB2w.cell 3; have mz3 := hB2w.frozen 3; have HB2w := Lib.hid hB2w; clear hB2w))
  all_goals
    go_wp2_with fail
    refine bodyPost_ret (ret_cell1 rfl _ _ (w.heap.size + 1) _ _ _ _ _ rfl (HB2w.out.put4 _ _ _ _)) rfl ?_
    rw [HF.out]
    exact ⟨⟨none, 0, rfl, RV.flat_ (k := 2) (n := 0) (by unfold fits; omega) (by unfold fits; omega) (by rw [cln_len]; exact hs1)⟩, put4_below (HBb.out.trans (hT1.mono HBb.out.size)) _ (by omega) _ _ _ _⟩
end Go.Proofs.YtjdnpgdedbegfaaDoor
