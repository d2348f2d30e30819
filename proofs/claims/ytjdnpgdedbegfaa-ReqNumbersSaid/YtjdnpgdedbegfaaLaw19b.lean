/- The walk of the law ReqParts. -/
import Derived.Test.YtjdnpgdedbegfaaLaw19a
namespace Go.Proofs.Ytjdnpgdedbegfaa
open Go.RowKit Go.Shelf
set_option linter.unusedVariables false

theorem BSl.prefix_ {w : World} {B n c : Nat} {a : Addr} {l : List UInt8} (h : BSl w B (.slice (some a) n c) l) (k : Nat) (hk : k ≤ n) : BSl w B (.slice (some a) k c) (l.take k) := by
  obtain ⟨A, c', h1, h2, h3, h4, h5, h6⟩ := h
  injection h1 with e1 e2 e3
  subst e1; subst e2; subst e3
  have hl : (l.take k).length = k := by rw [List.length_take]; omega
  exact ⟨some a, c, by rw [hl], by rw [hl]; exact Reads.prefix_ h2 hk, h3, by omega, h5, h6⟩

set_option maxRecDepth 100000 in
set_option maxHeartbeats 8000000 in
theorem reqParts_walk (v : Value) (ls : List (List UInt8)) (cut : Int) (more : ByteArray) (w : World) (hv : Arg1 w v ls) (hc : -9223372036854775808 ≤ cut ∧ cut ≤ 9223372036854775807) (hmo : more.size ≤ maxLen) (hm : Mx w) :
    Calls Try.prog 7 #[v, .int .i64 cut, .string more] w fun e w' => e = .returned (.bool true) ∧ Below w.heap.size w w' := by
  obtain ⟨i0, hi, hz0, hz1, hz2⟩ := info_parts u8info
  obtain ⟨it, hi', hy0, hy1, hy2⟩ := info_parts strinfo
  have hfl := fews_len ls 8 40
  have hfs := fews_size (ls := ls) (m := 8) (most := 40)
  have hfew := fun w h => few_arg (v := v) (ls := ls) 8 40 w h (by omega) (by omega)
  obtain ⟨F, hF⟩ : ∃ F, fews ls 8 40 = F := ⟨_, rfl⟩
  rw [hF] at hfl hfs hfew
  obtain ⟨X, hX⟩ : ∃ X, [119, 111, 114, 100] :: F = X := ⟨_, rfl⟩
  have hXl : X.length = F.length + 1 := by rw [← hX]; rfl
  have hXs : ∀ s ∈ X, s.length ≤ 40 := by
    rw [← hX]; intro s hs
    rcases List.mem_cons.mp hs with rfl | h
    · decide
    · exact hfs s h
  have HX := Lib.hid (show X.map sv = [sv [119, 111, 114, 100]] ++ F.map sv by rw [← hX]; rfl)
  have hml := Rq.make_len X 40 hXs
  have hmake := fun B c A w h => make_own (B := B) (c := c) (A := A) (ls := X) (n := 0) w h (by omega) (fun s hs => by have := hXs s hs; omega)
  have hcutk := fun k hk => Rq.nxt_cut X k (by omega) (fun s hs => by have := hXs s hs; omega) hk
  have hwhole := fun r => Rq.nxt_made X r (by omega) (fun s hs => by have := hXs s hs; omega)
  obtain ⟨M, hM⟩ : ∃ M, Rq.make X = M := ⟨_, rfl⟩
  have hM0 : 0 < M.length := by rw [← hM]; unfold Rq.make; simp
  rw [hM] at hml hmake hcutk hwhole
  have HC := Lib.hid hcutk
  have HW := Lib.hid hwhole
  have hcl := List.length_take_le 30 more.data.toList
  have hcut30 := fun w => cut_any more 30 w hmo (by omega)
  obtain ⟨T, hT⟩ : ∃ T, more.data.toList.take 30 = T := ⟨_, rfl⟩
  rw [hT] at hcl hcut30
  have HLS := Lib.hid (show ∀ x ∈ X.map sv, ∃ s, x = Value.string s from fun x hx => by obtain ⟨s, _, rfl⟩ := List.mem_map.mp hx; exact ⟨_, rfl⟩)
  have HXL := Lib.hid (show 1 + F.length = X.length by omega)
  have hXb : X.length ≤ 9 := by omega
  clear hF hX hM hT hcutk hwhole hXs hfs hXl
  have hv1 : Arg1 (w.alloc (.cells #[.string ⟨#[119, 111, 114, 100]⟩] 9)) v ls := hv.below ((Below.refl _ _).alloc (Nat.le_refl _) _)
  have hO0 : Own (w.alloc (.cells #[.string ⟨#[119, 111, 114, 100]⟩] 9)) w.heap.size 9 1 (.slice (some ⟨w.heap.size, 0, none⟩) 1 1) 1 [sv [119, 111, 114, 100]] := Own.lit (base := w.heap.size) w #[sv [119, 111, 114, 100]] 1 (Nat.le_refl _) (by decide) rfl
  have hb0 : Below w.heap.size w (w.alloc (.cells #[.string ⟨#[119, 111, 114, 100]⟩] 9)) := (Below.refl _ _).alloc (Nat.le_refl _) _
  obtain ⟨Av, nv, cv, rfl⟩ : ∃ A n c, v = .slice A n c := by obtain ⟨A, c, h, _⟩ := hv; exact ⟨A, _, c, h⟩
  go_enter Try.func7, Try.ntmps7
  go_wp2_with fail
  refine (hfew _ hv1).mono ?_
  rintro e w1 ⟨A1, c1, rfl, hO1, hb1⟩
  have hO0' := hO0.below_ hb1
  have hbl1 : Below w.heap.size w w1 := hb0.trans (hb1.mono (by simp))
  have hbs1 := hbl1.size
  go_wp2_with (at_builtin; refine wpList_append_Own _ rfl (.tmp 15) (.tmp 17) _ _ rfl w.heap.size 9 it _ 1 16 Try.underlying33 hi' hy0 hy1 hy2 rfl (.slice (some ⟨w.heap.size, 0, none⟩) 1 1) 1 [sv [119, 111, 114, 100]] rfl hO0' _ _ _ rfl (Src.own hO1 Try.underlying33 (by intro v hv; obtain ⟨s, _, rfl⟩ := List.mem_map.mp hv; rfl) (by omega)) (by unfold maxLen; omega) (by omega) (by omega) ?_; intro v2 w2 hOv hgr hat; rw [← HX.out, HXL.out] at hOv; obtain ⟨A2, c2, rfl⟩ := hOv.sliceForm; have hbl2 := hbl1.grown hgr hbs1 (fun k hk => (hO0'.lt k hk).1); clear hO0' hO1 hO0)
  refine (hmake _ _ _ w2 hOv).mono ?_
  rintro e w3 ⟨A3, c3, rfl, hM3, hb3⟩
  have hbl3 := hbl2.trans (hb3.mono hbl2.size)
  have hX3 := hOv.below_ hb3
  rcases Own.form hM3 with ⟨_, h0⟩ | ⟨g, cap, hgv, _, _, _, _⟩
  · exact absurd h0 (by omega)
  injection hgv with e1 e2 e3
  subst e1; subst e3
  have hB3 := BSl.own hM3
  have hM0' : ((M.length : Int) == 0) = false := by simpa using (by omega : ¬ M.length = 0)
  have hMle : M.length ≤ 1000 := by omega
  have hm3 := hm.below_ hbl3
  go_wp2_with fail
  refine (within_nat cut ((M.length : Int) - 1) w3 hc (by omega) (by omega)).mono ?_
  rintro e w4 ⟨k, hk, rfl, rfl⟩
  have hk' : k < M.length := by omega
  have hB4 := hB3.prefix_ k (by omega)
  have hkl := Lib.hid (show (M.take k).length ≤ 1048576 by rw [List.length_take]; omega)
  have i1 : (0 : Int) ≤ (k : Int) := by omega
  have i2 : (k : Int) ≤ (c3 : Int) := by omega
  go_wp2_with fail
  refine (next_part _ hB4 hm3 hkl.out (HC.out k hk')).mono ?_
  rintro e w5 ⟨rfl, hb5⟩
  have hbl5 := below_trans hbl3 hb5
  have hM5 := Own.below_ hM3 hb5
  have hX5 := hX3.below_ hb5
  have hbs5 := hbl5.size
  have hO6 : Own (w5.alloc (.cells #[] 5)) w.heap.size 5 1 (.slice (some ⟨w5.heap.size, 0, none⟩) 0 0) 0 [] := Own.lit (base := w.heap.size) w5 #[] 0 hbs5 (by decide) rfl
  have hM6 := hM5.alloc (.cells #[] 5)
  have hX6 := hX5.alloc (.cells #[] 5)
  have hbl6 := hbl5.alloc hbs5 (.cells #[] 5)
  clear hM5 hX5 hM3 hX3 hB3 hB4
  have hbs6 := hbl6.size
  go_wp2_with (at_builtin; refine wpList_append_Own _ rfl (.tmp 38) (.tmp 39) _ _ rfl w.heap.size 5 i0 _ 1 1 Try.underlying30 hi hz0 hz1 hz2 rfl (.slice (some ⟨w5.heap.size, 0, none⟩) 0 0) 0 [] rfl hO6 _ _ _ rfl (Src.own hM6 Try.underlying30 (bv_one _) (by omega)) (by unfold maxLen; omega) (by omega) (by omega) ?_; intro v7 w7 hO7 hgr7 hat7; rw [Nat.zero_add, List.nil_append] at hO7; obtain ⟨A7, c7, rfl⟩ := hO7.sliceForm; have hX7 := hX6.kept hgr7 (hX6.ne_ hO6 (by decide)); have hbl7 := hbl6.grown hgr7 hbs6 (fun k hk => (hO6.lt k hk).1); have hbs7 := hbl7.size; clear hO6 hM6 hX6)
  refine (hcut30 w7).mono ?_
  rintro e w8 ⟨rfl, rfl⟩
  go_wp2_with (at_builtin; refine wpList_append_Own _ rfl (.tmp 40) (.tmp 42) _ _ rfl w.heap.size 5 i0 _ 1 1 Try.underlying30 hi hz0 hz1 hz2 rfl (.slice A7 M.length c7) M.length (bv M) rfl hO7 _ _ _ rfl (Src.str (bs T) Try.underlying9) (by rw [bs_size]; unfold maxLen; omega) (by rw [bs_size]; omega) (by omega) ?_; intro v9 w9 hO9 hgr9 hat9; rw [bs_size, strCells_bv, bs_data, ← bv_append] at hO9; have hO9' : OB w9 w.heap.size 5 v9 (M ++ T) := OB.mk hO9 rfl; have hX9 := hX7.kept hgr9 (hX7.ne_ hO7 (by decide)); have hbl9 := hbl7.grown hgr9 hbs7 (fun k hk => (hO7.lt k hk).1); clear hO7 hX7 hO9)
  refine (next_some w9 (BSl.own hO9') (hm.below_ hbl9) (by rw [List.length_append]; omega) (HW.out T) M.length (by rw [List.length_append]; omega)).mono ?_
  rintro e wA ⟨AA, cA, rfl, hOA, hbA⟩
  have hXA := hX9.below_ hbA
  have hblA := below_trans hbl9 hbA
  go_wp2_with fail
  refine (lists_same _ (by unfold maxLen; omega) (hOA.own_reads (Nat.le_refl _)) (hXA.own_reads (Nat.le_refl _)) HLS.out).mono ?_
  rintro e wB ⟨rfl, q, rfl⟩
  have hblB := Lib.below_drewN' hblA q
  go_wp2_with fail
  refine (known_any _ (hm.below_ hblB)).mono ?_
  rintro e wC ⟨rfl, hbC⟩
  go_wp2_with fail
  go_ret
  exact ⟨rfl, below_trans hblB hbC⟩
end Go.Proofs.Ytjdnpgdedbegfaa
