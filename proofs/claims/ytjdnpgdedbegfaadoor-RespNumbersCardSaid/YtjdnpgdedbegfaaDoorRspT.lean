/- The walks of Flat at the kinds without parts. -/
import Derived.Test.YtjdnpgdedbegfaaDoorRspS
namespace Go.Proofs.YtjdnpgdedbegfaaDoor
open Go.RowKit Go.Shelf
set_option linter.unusedVariables false

theorem below_set {w0 w : World} {B g : Nat} (h : Below B w0 w) (hg : B ≤ g) (i : Nat) (u : Value) : Below B w0 (w.setCell ⟨g, i, none⟩ u) :=
  ⟨h.os, h.tape, h.output, by rw [World.setCell_size]; exact h.size, fun k hk => (Below.heap_setCell w _ u k (by simp; omega)).trans (h.block k hk)⟩

set_option maxRecDepth 100000 in
set_option maxHeartbeats 8000000 in
theorem flat_line1 (s : List UInt8) (n : Int) (l : List Rep) : FlatAt (.mk 1 s n l) := by
  intro d w cs hok hr hmy
  have hs20 : s.length ≤ 20 := by cases d with
    | zero => exact hok.2.2.1
    | succ d => exact hok.2.2.1
  obtain ⟨A, c, xs, rfl, hk1, hn1, hs1, hlc1, hcm1, hd1, hl1⟩ := hr.fields
  simp only [Rep.k, Rep.s, Rep.n, Rep.l] at *
  have HF := Lib.hid (show Rep.flat (.mk 1 s n l) = .mk 1 (cln s) 0 [] by rw [flat_mk]; simp)
  have Hn := Lib.hid hn1
  obtain ⟨N, hN⟩ : ∃ N, l.length = N := ⟨_, rfl⟩
  rw [hN] at hlc1
  have hb1 : Below w.heap.size w (w.alloc (.cells #[.int .i64 1, sv s, .int .i64 n, .slice A N c] 27)) := (Below.refl _ _).alloc (Nat.le_refl _) _
  have hb2 := hb1.alloc (by simp) (.cells #[.int .i64 0, .string ⟨#[]⟩, .int .i64 0, .slice none 0 0] 27)
  have hb3 := hb2.alloc (by simp; omega) (.cells #[.int .i64 1, .string ⟨#[]⟩, .int .i64 0, .slice none 0 0] 27)
  have hB2 : Blk (((w.alloc (.cells #[.int .i64 1, sv s, .int .i64 n, .slice A N c] 27)).alloc (.cells #[.int .i64 0, .string ⟨#[]⟩, .int .i64 0, .slice none 0 0] 27)).alloc (.cells #[.int .i64 1, .string ⟨#[]⟩, .int .i64 0, .slice none 0 0] 27)) (w.heap.size + 1) 27 #[.int .i64 0, .string ⟨#[]⟩, .int .i64 0, .slice none 0 0] := by
    have := (Blk.new (w.alloc (.cells #[.int .i64 1, sv s, .int .i64 n, .slice A N c] 27)) 27 #[.int .i64 0, .string ⟨#[]⟩, .int .i64 0, .slice none 0 0]).alloc (.cells #[.int .i64 1, .string ⟨#[]⟩, .int .i64 0, .slice none 0 0] 27)
    simpa using this
  have hB3 : Blk (((w.alloc (.cells #[.int .i64 1, sv s, .int .i64 n, .slice A N c] 27)).alloc (.cells #[.int .i64 0, .string ⟨#[]⟩, .int .i64 0, .slice none 0 0] 27)).alloc (.cells #[.int .i64 1, .string ⟨#[]⟩, .int .i64 0, .slice none 0 0] 27)) (w.heap.size + 2) 27 #[.int .i64 1, .string ⟨#[]⟩, .int .i64 0, .slice none 0 0] := by
    have := Blk.new ((w.alloc (.cells #[.int .i64 1, sv s, .int .i64 n, .slice A N c] 27)).alloc (.cells #[.int .i64 0, .string ⟨#[]⟩, .int .i64 0, .slice none 0 0] 27)) 27 #[.int .i64 1, .string ⟨#[]⟩, .int .i64 0, .slice none 0 0]
    simpa using this
  rw [hN] at hr hd1 ⊢
  clear hok hd1 hl1 hN
  have hL := line_any s (((w.alloc (.cells #[.int .i64 1, sv s, .int .i64 n, .slice A N c] 27)).alloc (.cells #[.int .i64 0, .string ⟨#[]⟩, .int .i64 0, .slice none 0 0] 27)).alloc (.cells #[.int .i64 1, .string ⟨#[]⟩, .int .i64 0, .slice none 0 0] 27)) (by omega) (((hmy.alloc _).alloc _).alloc _)
  clear hr
  go_enter Tryd.func16, Tryd.ntmps16
  go_wp2_with fail
  refine hL.mono ?_
  rintro e w1 ⟨rfl, hbl⟩
  have hB2w := hB2.below hbl hB2.lt
  have hB3w := hB3.below hbl hB3.lt
  have hbx := hb3.trans (hbl.mono (by simp; omega))
  have m0 := hB3w.cell 0
  have mz0 := hB3w.frozen 0
  have m1 := hB3w.cell 1
  have mz1 := hB3w.frozen 1
  have m2 := hB3w.cell 2
  have mz2 := hB3w.frozen 2
  have m3 := hB3w.cell 3
  have mz3 := hB3w.frozen 3
  have k0 := hB2w.cell 0
  have kz0 := hB2w.frozen 0
  have k1 := hB2w.cell 1
  have kz1 := hB2w.frozen 1
  have k2 := hB2w.cell 2
  have kz2 := hB2w.frozen 2
  have k3 := hB2w.cell 3
  have kz3 := hB2w.frozen 3
  have HB2w := Lib.hid hB2w
  have HB3w := Lib.hid hB3w
  have HBX := Lib.hid hbx
  clear hB2w hB3w hbx hB2 hB3 hb1 hb2 hb3
  go_wp2_with fail
  have hB2x : Blk (w1.setCell ⟨w.heap.size + 2, 1, none⟩ (sv (cln s))) (w.heap.size + 1) 27 #[.int .i64 0, .string ⟨#[]⟩, .int .i64 0, .slice none 0 0] := HB2w.out.far (by simp) _
  have hbz := below_set HBX.out (g := w.heap.size + 2) (by omega) 1 (sv (cln s))
  refine bodyPost_ret (ret_cell1 rfl _ _ (w.heap.size + 1) _ _ _ _ _ rfl (hB2x.put4 _ _ _ _)) rfl ?_
  rw [HF.out]
  exact ⟨⟨none, 0, rfl, RV.flat_ (k := 1) (n := 0) (by unfold fits; omega) (by unfold fits; omega) (by rw [cln_len]; exact hs1)⟩, put4_below hbz _ (by omega) _ _ _ _⟩

set_option maxRecDepth 100000 in
set_option maxHeartbeats 8000000 in
theorem flat_line2 (s : List UInt8) (n : Int) (l : List Rep) : FlatAt (.mk 2 s n l) := by
  intro d w cs hok hr hmy
  have hs20 : s.length ≤ 20 := by cases d with
    | zero => exact hok.2.2.1
    | succ d => exact hok.2.2.1
  obtain ⟨A, c, xs, rfl, hk1, hn1, hs1, hlc1, hcm1, hd1, hl1⟩ := hr.fields
  simp only [Rep.k, Rep.s, Rep.n, Rep.l] at *
  have HF := Lib.hid (show Rep.flat (.mk 2 s n l) = .mk 2 (cln s) 0 [] by rw [flat_mk]; simp)
  have Hn := Lib.hid hn1
  obtain ⟨N, hN⟩ : ∃ N, l.length = N := ⟨_, rfl⟩
  rw [hN] at hlc1
  have hb1 : Below w.heap.size w (w.alloc (.cells #[.int .i64 2, sv s, .int .i64 n, .slice A N c] 27)) := (Below.refl _ _).alloc (Nat.le_refl _) _
  have hb2 := hb1.alloc (by simp) (.cells #[.int .i64 0, .string ⟨#[]⟩, .int .i64 0, .slice none 0 0] 27)
  have hb3 := hb2.alloc (by simp; omega) (.cells #[.int .i64 2, .string ⟨#[]⟩, .int .i64 0, .slice none 0 0] 27)
  have hB2 : Blk (((w.alloc (.cells #[.int .i64 2, sv s, .int .i64 n, .slice A N c] 27)).alloc (.cells #[.int .i64 0, .string ⟨#[]⟩, .int .i64 0, .slice none 0 0] 27)).alloc (.cells #[.int .i64 2, .string ⟨#[]⟩, .int .i64 0, .slice none 0 0] 27)) (w.heap.size + 1) 27 #[.int .i64 0, .string ⟨#[]⟩, .int .i64 0, .slice none 0 0] := by
    have := (Blk.new (w.alloc (.cells #[.int .i64 2, sv s, .int .i64 n, .slice A N c] 27)) 27 #[.int .i64 0, .string ⟨#[]⟩, .int .i64 0, .slice none 0 0]).alloc (.cells #[.int .i64 2, .string ⟨#[]⟩, .int .i64 0, .slice none 0 0] 27)
    simpa using this
  have hB3 : Blk (((w.alloc (.cells #[.int .i64 2, sv s, .int .i64 n, .slice A N c] 27)).alloc (.cells #[.int .i64 0, .string ⟨#[]⟩, .int .i64 0, .slice none 0 0] 27)).alloc (.cells #[.int .i64 2, .string ⟨#[]⟩, .int .i64 0, .slice none 0 0] 27)) (w.heap.size + 2) 27 #[.int .i64 2, .string ⟨#[]⟩, .int .i64 0, .slice none 0 0] := by
    have := Blk.new ((w.alloc (.cells #[.int .i64 2, sv s, .int .i64 n, .slice A N c] 27)).alloc (.cells #[.int .i64 0, .string ⟨#[]⟩, .int .i64 0, .slice none 0 0] 27)) 27 #[.int .i64 2, .string ⟨#[]⟩, .int .i64 0, .slice none 0 0]
    simpa using this
  rw [hN] at hr hd1 ⊢
  clear hok hd1 hl1 hN
  have hL := line_any s (((w.alloc (.cells #[.int .i64 2, sv s, .int .i64 n, .slice A N c] 27)).alloc (.cells #[.int .i64 0, .string ⟨#[]⟩, .int .i64 0, .slice none 0 0] 27)).alloc (.cells #[.int .i64 2, .string ⟨#[]⟩, .int .i64 0, .slice none 0 0] 27)) (by omega) (((hmy.alloc _).alloc _).alloc _)
  clear hr
  go_enter Tryd.func16, Tryd.ntmps16
  go_wp2_with fail
  refine hL.mono ?_
  rintro e w1 ⟨rfl, hbl⟩
  have hB2w := hB2.below hbl hB2.lt
  have hB3w := hB3.below hbl hB3.lt
  have hbx := hb3.trans (hbl.mono (by simp; omega))
  have m0 := hB3w.cell 0
  have mz0 := hB3w.frozen 0
  have m1 := hB3w.cell 1
  have mz1 := hB3w.frozen 1
  have m2 := hB3w.cell 2
  have mz2 := hB3w.frozen 2
  have m3 := hB3w.cell 3
  have mz3 := hB3w.frozen 3
  have k0 := hB2w.cell 0
  have kz0 := hB2w.frozen 0
  have k1 := hB2w.cell 1
  have kz1 := hB2w.frozen 1
  have k2 := hB2w.cell 2
  have kz2 := hB2w.frozen 2
  have k3 := hB2w.cell 3
  have kz3 := hB2w.frozen 3
  have HB2w := Lib.hid hB2w
  have HB3w := Lib.hid hB3w
  have HBX := Lib.hid hbx
  clear hB2w hB3w hbx hB2 hB3 hb1 hb2 hb3
  go_wp2_with fail
  have hB2x : Blk (w1.setCell ⟨w.heap.size + 2, 1, none⟩ (sv (cln s))) (w.heap.size + 1) 27 #[.int .i64 0, .string ⟨#[]⟩, .int .i64 0, .slice none 0 0] := HB2w.out.far (by simp) _
  have hbz := below_set HBX.out (g := w.heap.size + 2) (by omega) 1 (sv (cln s))
  refine bodyPost_ret (ret_cell1 rfl _ _ (w.heap.size + 1) _ _ _ _ _ rfl (hB2x.put4 _ _ _ _)) rfl ?_
  rw [HF.out]
  exact ⟨⟨none, 0, rfl, RV.flat_ (k := 2) (n := 0) (by unfold fits; omega) (by unfold fits; omega) (by rw [cln_len]; exact hs1)⟩, put4_below hbz _ (by omega) _ _ _ _⟩

set_option maxRecDepth 100000 in
set_option maxHeartbeats 8000000 in
theorem flat_bulk (s : List UInt8) (n : Int) (l : List Rep) : FlatAt (.mk 4 s n l) := by
  intro d w cs hok hr hmy
  have hs20 : s.length ≤ 20 := by cases d with
    | zero => exact hok.2.2.1
    | succ d => exact hok.2.2.1
  obtain ⟨A, c, xs, rfl, hk1, hn1, hs1, hlc1, hcm1, hd1, hl1⟩ := hr.fields
  simp only [Rep.k, Rep.s, Rep.n, Rep.l] at *
  have HF := Lib.hid (show Rep.flat (.mk 4 s n l) = .mk 4 s 0 [] by rw [flat_mk]; simp)
  have Hn := Lib.hid hn1
  obtain ⟨N, hN⟩ : ∃ N, l.length = N := ⟨_, rfl⟩
  rw [hN] at hlc1
  have hb1 : Below w.heap.size w (w.alloc (.cells #[.int .i64 4, sv s, .int .i64 n, .slice A N c] 27)) := (Below.refl _ _).alloc (Nat.le_refl _) _
  have hb2 := hb1.alloc (by simp) (.cells #[.int .i64 0, .string ⟨#[]⟩, .int .i64 0, .slice none 0 0] 27)
  have hb3 := hb2.alloc (by simp; omega) (.cells #[.int .i64 4, .string ⟨#[]⟩, .int .i64 0, .slice none 0 0] 27)
  have hB2 : Blk (((w.alloc (.cells #[.int .i64 4, sv s, .int .i64 n, .slice A N c] 27)).alloc (.cells #[.int .i64 0, .string ⟨#[]⟩, .int .i64 0, .slice none 0 0] 27)).alloc (.cells #[.int .i64 4, .string ⟨#[]⟩, .int .i64 0, .slice none 0 0] 27)) (w.heap.size + 1) 27 #[.int .i64 0, .string ⟨#[]⟩, .int .i64 0, .slice none 0 0] := by
    have := (Blk.new (w.alloc (.cells #[.int .i64 4, sv s, .int .i64 n, .slice A N c] 27)) 27 #[.int .i64 0, .string ⟨#[]⟩, .int .i64 0, .slice none 0 0]).alloc (.cells #[.int .i64 4, .string ⟨#[]⟩, .int .i64 0, .slice none 0 0] 27)
    simpa using this
  have hB3 : Blk (((w.alloc (.cells #[.int .i64 4, sv s, .int .i64 n, .slice A N c] 27)).alloc (.cells #[.int .i64 0, .string ⟨#[]⟩, .int .i64 0, .slice none 0 0] 27)).alloc (.cells #[.int .i64 4, .string ⟨#[]⟩, .int .i64 0, .slice none 0 0] 27)) (w.heap.size + 2) 27 #[.int .i64 4, .string ⟨#[]⟩, .int .i64 0, .slice none 0 0] := by
    have := Blk.new ((w.alloc (.cells #[.int .i64 4, sv s, .int .i64 n, .slice A N c] 27)).alloc (.cells #[.int .i64 0, .string ⟨#[]⟩, .int .i64 0, .slice none 0 0] 27)) 27 #[.int .i64 4, .string ⟨#[]⟩, .int .i64 0, .slice none 0 0]
    simpa using this
  rw [hN] at hr hd1 ⊢
  clear hok hd1 hl1 hN
  clear hr hb1 hb2 hb3 hB2 hB3
  go_enter Tryd.func16, Tryd.ntmps16
  go_wp2_with fail
  have hB2x : Blk (((w.alloc (.cells #[.int .i64 4, sv s, .int .i64 n, .slice A N c] 27)).alloc (.cells #[.int .i64 4, sv s, .int .i64 0, .slice none 0 0] 27)).alloc (.cells #[.int .i64 4, sv s, .int .i64 0, .slice none 0 0] 27)) (w.heap.size + 1) 27 #[.int .i64 4, sv s, .int .i64 0, .slice none 0 0] := by
    have := (Blk.new (w.alloc (.cells #[.int .i64 4, sv s, .int .i64 n, .slice A N c] 27)) 27 #[.int .i64 4, sv s, .int .i64 0, .slice none 0 0]).alloc (.cells #[.int .i64 4, sv s, .int .i64 0, .slice none 0 0] 27)
    simpa using this
  refine bodyPost_ret (ret_cell1 rfl _ _ (w.heap.size + 1) _ _ _ _ _ rfl hB2x) rfl ?_
  rw [HF.out]
  exact ⟨⟨none, 0, rfl, RV.flat_ (k := 4) (n := 0) (by unfold fits; omega) (by unfold fits; omega) hs1⟩, (((Below.refl _ _).alloc (Nat.le_refl _) _).alloc (by simp) _).alloc (by simp; omega) _⟩

set_option maxRecDepth 100000 in
set_option maxHeartbeats 8000000 in
theorem flat_int (s : List UInt8) (n : Int) (l : List Rep) : FlatAt (.mk 3 s n l) := by
  intro d w cs hok hr hmy
  have hs20 : s.length ≤ 20 := by cases d with
    | zero => exact hok.2.2.1
    | succ d => exact hok.2.2.1
  obtain ⟨A, c, xs, rfl, hk1, hn1, hs1, hlc1, hcm1, hd1, hl1⟩ := hr.fields
  simp only [Rep.k, Rep.s, Rep.n, Rep.l] at *
  have HF := Lib.hid (show Rep.flat (.mk 3 s n l) = .mk 3 [] n [] by rw [flat_mk]; simp)
  have Hn := Lib.hid hn1
  obtain ⟨N, hN⟩ : ∃ N, l.length = N := ⟨_, rfl⟩
  rw [hN] at hlc1
  have hb1 : Below w.heap.size w (w.alloc (.cells #[.int .i64 3, sv s, .int .i64 n, .slice A N c] 27)) := (Below.refl _ _).alloc (Nat.le_refl _) _
  have hb2 := hb1.alloc (by simp) (.cells #[.int .i64 0, .string ⟨#[]⟩, .int .i64 0, .slice none 0 0] 27)
  have hb3 := hb2.alloc (by simp; omega) (.cells #[.int .i64 3, .string ⟨#[]⟩, .int .i64 0, .slice none 0 0] 27)
  have hB2 : Blk (((w.alloc (.cells #[.int .i64 3, sv s, .int .i64 n, .slice A N c] 27)).alloc (.cells #[.int .i64 0, .string ⟨#[]⟩, .int .i64 0, .slice none 0 0] 27)).alloc (.cells #[.int .i64 3, .string ⟨#[]⟩, .int .i64 0, .slice none 0 0] 27)) (w.heap.size + 1) 27 #[.int .i64 0, .string ⟨#[]⟩, .int .i64 0, .slice none 0 0] := by
    have := (Blk.new (w.alloc (.cells #[.int .i64 3, sv s, .int .i64 n, .slice A N c] 27)) 27 #[.int .i64 0, .string ⟨#[]⟩, .int .i64 0, .slice none 0 0]).alloc (.cells #[.int .i64 3, .string ⟨#[]⟩, .int .i64 0, .slice none 0 0] 27)
    simpa using this
  have hB3 : Blk (((w.alloc (.cells #[.int .i64 3, sv s, .int .i64 n, .slice A N c] 27)).alloc (.cells #[.int .i64 0, .string ⟨#[]⟩, .int .i64 0, .slice none 0 0] 27)).alloc (.cells #[.int .i64 3, .string ⟨#[]⟩, .int .i64 0, .slice none 0 0] 27)) (w.heap.size + 2) 27 #[.int .i64 3, .string ⟨#[]⟩, .int .i64 0, .slice none 0 0] := by
    have := Blk.new ((w.alloc (.cells #[.int .i64 3, sv s, .int .i64 n, .slice A N c] 27)).alloc (.cells #[.int .i64 0, .string ⟨#[]⟩, .int .i64 0, .slice none 0 0] 27)) 27 #[.int .i64 3, .string ⟨#[]⟩, .int .i64 0, .slice none 0 0]
    simpa using this
  rw [hN] at hr hd1 ⊢
  clear hok hd1 hl1 hN
  clear hr hb1 hb2 hb3 hB2 hB3
  go_enter Tryd.func16, Tryd.ntmps16
  go_wp2_with fail
  have hB2x : Blk (((w.alloc (.cells #[.int .i64 3, sv s, .int .i64 n, .slice A N c] 27)).alloc (.cells #[.int .i64 3, .string ⟨#[]⟩, .int .i64 n, .slice none 0 0] 27)).alloc (.cells #[.int .i64 3, .string ⟨#[]⟩, .int .i64 n, .slice none 0 0] 27)) (w.heap.size + 1) 27 #[.int .i64 3, .string ⟨#[]⟩, .int .i64 n, .slice none 0 0] := by
    have := (Blk.new (w.alloc (.cells #[.int .i64 3, sv s, .int .i64 n, .slice A N c] 27)) 27 #[.int .i64 3, .string ⟨#[]⟩, .int .i64 n, .slice none 0 0]).alloc (.cells #[.int .i64 3, .string ⟨#[]⟩, .int .i64 n, .slice none 0 0] 27)
    simpa using this
  refine bodyPost_ret (ret_cell1 rfl _ _ (w.heap.size + 1) _ _ _ _ _ rfl hB2x) rfl ?_
  rw [HF.out]
  exact ⟨⟨none, 0, rfl, RV.flat_ (k := 3) (n := n) (by unfold fits; omega) Hn.out (Nat.zero_le _)⟩, (((Below.refl _ _).alloc (Nat.le_refl _) _).alloc (by simp) _).alloc (by simp; omega) _⟩

set_option maxRecDepth 100000 in
set_option maxHeartbeats 8000000 in
theorem flat_na (s : List UInt8) (n : Int) (l : List Rep) : FlatAt (.mk 6 s n l) := by
  intro d w cs hok hr hmy
  have hs20 : s.length ≤ 20 := by cases d with
    | zero => exact hok.2.2.1
    | succ d => exact hok.2.2.1
  obtain ⟨A, c, xs, rfl, hk1, hn1, hs1, hlc1, hcm1, hd1, hl1⟩ := hr.fields
  simp only [Rep.k, Rep.s, Rep.n, Rep.l] at *
  have HF := Lib.hid (show Rep.flat (.mk 6 s n l) = .mk 6 [] 0 [] by rw [flat_mk]; simp)
  have Hn := Lib.hid hn1
  obtain ⟨N, hN⟩ : ∃ N, l.length = N := ⟨_, rfl⟩
  rw [hN] at hlc1
  have hb1 : Below w.heap.size w (w.alloc (.cells #[.int .i64 6, sv s, .int .i64 n, .slice A N c] 27)) := (Below.refl _ _).alloc (Nat.le_refl _) _
  have hb2 := hb1.alloc (by simp) (.cells #[.int .i64 0, .string ⟨#[]⟩, .int .i64 0, .slice none 0 0] 27)
  have hb3 := hb2.alloc (by simp; omega) (.cells #[.int .i64 6, .string ⟨#[]⟩, .int .i64 0, .slice none 0 0] 27)
  have hB2 : Blk (((w.alloc (.cells #[.int .i64 6, sv s, .int .i64 n, .slice A N c] 27)).alloc (.cells #[.int .i64 0, .string ⟨#[]⟩, .int .i64 0, .slice none 0 0] 27)).alloc (.cells #[.int .i64 6, .string ⟨#[]⟩, .int .i64 0, .slice none 0 0] 27)) (w.heap.size + 1) 27 #[.int .i64 0, .string ⟨#[]⟩, .int .i64 0, .slice none 0 0] := by
    have := (Blk.new (w.alloc (.cells #[.int .i64 6, sv s, .int .i64 n, .slice A N c] 27)) 27 #[.int .i64 0, .string ⟨#[]⟩, .int .i64 0, .slice none 0 0]).alloc (.cells #[.int .i64 6, .string ⟨#[]⟩, .int .i64 0, .slice none 0 0] 27)
    simpa using this
  have hB3 : Blk (((w.alloc (.cells #[.int .i64 6, sv s, .int .i64 n, .slice A N c] 27)).alloc (.cells #[.int .i64 0, .string ⟨#[]⟩, .int .i64 0, .slice none 0 0] 27)).alloc (.cells #[.int .i64 6, .string ⟨#[]⟩, .int .i64 0, .slice none 0 0] 27)) (w.heap.size + 2) 27 #[.int .i64 6, .string ⟨#[]⟩, .int .i64 0, .slice none 0 0] := by
    have := Blk.new ((w.alloc (.cells #[.int .i64 6, sv s, .int .i64 n, .slice A N c] 27)).alloc (.cells #[.int .i64 0, .string ⟨#[]⟩, .int .i64 0, .slice none 0 0] 27)) 27 #[.int .i64 6, .string ⟨#[]⟩, .int .i64 0, .slice none 0 0]
    simpa using this
  rw [hN] at hr hd1 ⊢
  clear hok hd1 hl1 hN
  clear hr hb1 hb2 hb3 hB2 hB3
  go_enter Tryd.func16, Tryd.ntmps16
  go_wp2_with fail
  have hB2x : Blk (((w.alloc (.cells #[.int .i64 6, sv s, .int .i64 n, .slice A N c] 27)).alloc (.cells #[.int .i64 6, .string ⟨#[]⟩, .int .i64 0, .slice none 0 0] 27)).alloc (.cells #[.int .i64 6, .string ⟨#[]⟩, .int .i64 0, .slice none 0 0] 27)) (w.heap.size + 1) 27 #[.int .i64 6, .string ⟨#[]⟩, .int .i64 0, .slice none 0 0] := by
    have := (Blk.new (w.alloc (.cells #[.int .i64 6, sv s, .int .i64 n, .slice A N c] 27)) 27 #[.int .i64 6, .string ⟨#[]⟩, .int .i64 0, .slice none 0 0]).alloc (.cells #[.int .i64 6, .string ⟨#[]⟩, .int .i64 0, .slice none 0 0] 27)
    simpa using this
  refine bodyPost_ret (ret_cell1 rfl _ _ (w.heap.size + 1) _ _ _ _ _ rfl hB2x) rfl ?_
  rw [HF.out]
  exact ⟨⟨none, 0, rfl, RV.flat_ (k := 6) (n := 0) (by unfold fits; omega) (by unfold fits; omega) (Nat.zero_le _)⟩, (((Below.refl _ _).alloc (Nat.le_refl _) _).alloc (by simp) _).alloc (by simp; omega) _⟩

set_option maxRecDepth 100000 in
set_option maxHeartbeats 8000000 in
theorem flat_null (k : Int) (h1 : k ≠ 1) (h2 : k ≠ 2) (h3 : k ≠ 3) (h4 : k ≠ 4) (h6 : k ≠ 6) (h7 : k ≠ 7) (h8 : k ≠ 8) (h9 : k ≠ 9) (s : List UInt8) (n : Int) (l : List Rep) : FlatAt (.mk k s n l) := by
  intro d w cs hok hr hmy
  have hs20 : s.length ≤ 20 := by cases d with
    | zero => exact hok.2.2.1
    | succ d => exact hok.2.2.1
  obtain ⟨A, c, xs, rfl, hk1, hn1, hs1, hlc1, hcm1, hd1, hl1⟩ := hr.fields
  simp only [Rep.k, Rep.s, Rep.n, Rep.l] at *
  have HF := Lib.hid (show Rep.flat (.mk k s n l) = .mk 5 [] 0 [] by rw [flat_mk]; rw [if_neg (by omega), if_neg (by omega), if_neg (by omega), if_neg (by omega), if_neg (by omega)])
  have Hn := Lib.hid hn1
  obtain ⟨N, hN⟩ : ∃ N, l.length = N := ⟨_, rfl⟩
  rw [hN] at hlc1
  have hb1 : Below w.heap.size w (w.alloc (.cells #[.int .i64 k, sv s, .int .i64 n, .slice A N c] 27)) := (Below.refl _ _).alloc (Nat.le_refl _) _
  have hb2 := hb1.alloc (by simp) (.cells #[.int .i64 0, .string ⟨#[]⟩, .int .i64 0, .slice none 0 0] 27)
  have hb3 := hb2.alloc (by simp; omega) (.cells #[.int .i64 k, .string ⟨#[]⟩, .int .i64 0, .slice none 0 0] 27)
  have hB2 : Blk (((w.alloc (.cells #[.int .i64 k, sv s, .int .i64 n, .slice A N c] 27)).alloc (.cells #[.int .i64 0, .string ⟨#[]⟩, .int .i64 0, .slice none 0 0] 27)).alloc (.cells #[.int .i64 k, .string ⟨#[]⟩, .int .i64 0, .slice none 0 0] 27)) (w.heap.size + 1) 27 #[.int .i64 0, .string ⟨#[]⟩, .int .i64 0, .slice none 0 0] := by
    have := (Blk.new (w.alloc (.cells #[.int .i64 k, sv s, .int .i64 n, .slice A N c] 27)) 27 #[.int .i64 0, .string ⟨#[]⟩, .int .i64 0, .slice none 0 0]).alloc (.cells #[.int .i64 k, .string ⟨#[]⟩, .int .i64 0, .slice none 0 0] 27)
    simpa using this
  have hB3 : Blk (((w.alloc (.cells #[.int .i64 k, sv s, .int .i64 n, .slice A N c] 27)).alloc (.cells #[.int .i64 0, .string ⟨#[]⟩, .int .i64 0, .slice none 0 0] 27)).alloc (.cells #[.int .i64 k, .string ⟨#[]⟩, .int .i64 0, .slice none 0 0] 27)) (w.heap.size + 2) 27 #[.int .i64 k, .string ⟨#[]⟩, .int .i64 0, .slice none 0 0] := by
    have := Blk.new ((w.alloc (.cells #[.int .i64 k, sv s, .int .i64 n, .slice A N c] 27)).alloc (.cells #[.int .i64 0, .string ⟨#[]⟩, .int .i64 0, .slice none 0 0] 27)) 27 #[.int .i64 k, .string ⟨#[]⟩, .int .i64 0, .slice none 0 0]
    simpa using this
  rw [hN] at hr hd1 ⊢
  clear hok hd1 hl1 hN
  clear hr hb1 hb2 hb3 hB2 hB3
  go_enter Tryd.func16, Tryd.ntmps16
  go_wp2_with fail
  have hB2x : Blk (((w.alloc (.cells #[.int .i64 k, sv s, .int .i64 n, .slice A N c] 27)).alloc (.cells #[.int .i64 5, .string ⟨#[]⟩, .int .i64 0, .slice none 0 0] 27)).alloc (.cells #[.int .i64 5, .string ⟨#[]⟩, .int .i64 0, .slice none 0 0] 27)) (w.heap.size + 1) 27 #[.int .i64 5, .string ⟨#[]⟩, .int .i64 0, .slice none 0 0] := by
    have := (Blk.new (w.alloc (.cells #[.int .i64 k, sv s, .int .i64 n, .slice A N c] 27)) 27 #[.int .i64 5, .string ⟨#[]⟩, .int .i64 0, .slice none 0 0]).alloc (.cells #[.int .i64 5, .string ⟨#[]⟩, .int .i64 0, .slice none 0 0] 27)
    simpa using this
  refine bodyPost_ret (ret_cell1 rfl _ _ (w.heap.size + 1) _ _ _ _ _ rfl hB2x) rfl ?_
  rw [HF.out]
  exact ⟨⟨none, 0, rfl, RV.flat_ (k := 5) (n := 0) (by unfold fits; omega) (by unfold fits; omega) (Nat.zero_le _)⟩, (((Below.refl _ _).alloc (Nat.le_refl _) _).alloc (by simp) _).alloc (by simp; omega) _⟩
end Go.Proofs.YtjdnpgdedbegfaaDoor
