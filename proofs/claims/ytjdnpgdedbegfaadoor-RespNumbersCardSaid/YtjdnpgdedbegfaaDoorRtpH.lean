import Derived.Test.YtjdnpgdedbegfaaDoorRtpF
/- The walk of the reference's Encode. -/
namespace Go.Proofs.YtjdnpgdedbegfaaDoor
open Go.RowKit Go.Shelf
set_option linter.unusedVariables false

set_option maxRecDepth 100000 in
set_option maxHeartbeats 8000000 in
theorem ref_enc1 (s : List UInt8) (n : Int) (l : List Rep) : EncAt (.mk 1 s n l) := by
  intro t vn w cs hr hvn hfv hlen
  obtain ⟨A, c, xs, rfl, hk1, hn1, hs1, hlc1, hcm1, hd1, hl1⟩ := hr.fields
  simp only [Rep.k, Rep.s, Rep.n, Rep.l] at *
  have hel : enc t (.mk 1 s n l) = 43 :: cln s ++ [13, 10] := by unfold enc; simp
  rw [hel] at hlen ⊢
  have hcl := cln_len s
  have hsl : s.length ≤ 1048576 := by simp at hlen; omega
  have hL := fun w' => ref_line s w' hsl
  obtain ⟨f, hf⟩ : ∃ f, cln s = f := ⟨_, rfl⟩
  rw [hf] at hL hlen hcl ⊢
  have a1 : ∀ w, (Op.stringOp .add (⟨#[43]⟩ : ByteArray) (bs f)).run Tryd.prog w = .ok (sv (43 :: f)) w := fun w => add_bs (a := [43]) (b := f) (by simp; omega) w
  have a2 : ∀ w, (Op.stringOp .add (bs (43 :: f)) (⟨#[13, 10]⟩ : ByteArray)).run Tryd.prog w = .ok (sv (43 :: f ++ [13, 10])) w := fun w => add_bs (a := 43 :: f) (b := [13, 10]) (by simp; omega) w
  have HL := Lib.hid hL
  have HB := Lib.hid ((Below.refl w.heap.size w).alloc (Nat.le_refl _) (.cells #[.int .i64 1, sv s, .int .i64 n, .slice A l.length c] 27))
  clear hf hel hr hd1 hl1 hL hlen hcl
  go_enter Tryd.func19, Tryd.ntmps19
  go_wp2_with fail
  refine (HL.out _).mono ?_
  rintro e w1 ⟨rfl, hb1⟩
  go_wp2_with fail
  go_ret
  exact ⟨rfl, HB.out.trans (hb1.mono HB.out.size)⟩
set_option maxRecDepth 100000 in
set_option maxHeartbeats 8000000 in
theorem ref_enc2 (s : List UInt8) (n : Int) (l : List Rep) : EncAt (.mk 2 s n l) := by
  intro t vn w cs hr hvn hfv hlen
  obtain ⟨A, c, xs, rfl, hk1, hn1, hs1, hlc1, hcm1, hd1, hl1⟩ := hr.fields
  simp only [Rep.k, Rep.s, Rep.n, Rep.l] at *
  have hel : enc t (.mk 2 s n l) = 45 :: cln s ++ [13, 10] := by unfold enc; simp
  rw [hel] at hlen ⊢
  have hcl := cln_len s
  have hsl : s.length ≤ 1048576 := by simp at hlen; omega
  have hL := fun w' => ref_line s w' hsl
  obtain ⟨f, hf⟩ : ∃ f, cln s = f := ⟨_, rfl⟩
  rw [hf] at hL hlen hcl ⊢
  have a1 : ∀ w, (Op.stringOp .add (⟨#[45]⟩ : ByteArray) (bs f)).run Tryd.prog w = .ok (sv (45 :: f)) w := fun w => add_bs (a := [45]) (b := f) (by simp; omega) w
  have a2 : ∀ w, (Op.stringOp .add (bs (45 :: f)) (⟨#[13, 10]⟩ : ByteArray)).run Tryd.prog w = .ok (sv (45 :: f ++ [13, 10])) w := fun w => add_bs (a := 45 :: f) (b := [13, 10]) (by simp; omega) w
  have HL := Lib.hid hL
  have HB := Lib.hid ((Below.refl w.heap.size w).alloc (Nat.le_refl _) (.cells #[.int .i64 2, sv s, .int .i64 n, .slice A l.length c] 27))
  clear hf hel hr hd1 hl1 hL hlen hcl
  go_enter Tryd.func19, Tryd.ntmps19
  go_wp2_with fail
  refine (HL.out _).mono ?_
  rintro e w1 ⟨rfl, hb1⟩
  go_wp2_with fail
  go_ret
  exact ⟨rfl, HB.out.trans (hb1.mono HB.out.size)⟩
set_option maxRecDepth 100000 in
set_option maxHeartbeats 8000000 in
theorem ref_enc3 (s : List UInt8) (n : Int) (l : List Rep) : EncAt (.mk 3 s n l) := by
  intro t vn w cs hr hvn hfv hlen
  obtain ⟨A, c, xs, rfl, hk1, hn1, hs1, hlc1, hcm1, hd1, hl1⟩ := hr.fields
  simp only [Rep.k, Rep.s, Rep.n, Rep.l] at *
  have hel : enc t (.mk 3 s n l) = 58 :: Num.fmt n ++ [13, 10] := by unfold enc; simp
  rw [hel] at hlen ⊢
  have hfl := Num.fmt_length n
  have hL := fun w' => ref_format n w' (by unfold fits at hn1; omega) (by unfold fits at hn1; omega)
  obtain ⟨f, hf⟩ : ∃ f, Num.fmt n = f := ⟨_, rfl⟩
  rw [hf] at hL hfl hlen ⊢
  have a1 : ∀ w, (Op.stringOp .add (⟨#[58]⟩ : ByteArray) (bs f)).run Tryd.prog w = .ok (sv (58 :: f)) w := fun w => add_bs (a := [58]) (b := f) (by simp; omega) w
  have a2 : ∀ w, (Op.stringOp .add (bs (58 :: f)) (⟨#[13, 10]⟩ : ByteArray)).run Tryd.prog w = .ok (sv (58 :: f ++ [13, 10])) w := fun w => add_bs (a := 58 :: f) (b := [13, 10]) (by simp; omega) w
  have HL := Lib.hid hL
  have HB := Lib.hid ((Below.refl w.heap.size w).alloc (Nat.le_refl _) (.cells #[.int .i64 3, sv s, .int .i64 n, .slice A l.length c] 27))
  clear hf hel hr hd1 hl1 hL hlen hfl
  go_enter Tryd.func19, Tryd.ntmps19
  go_wp2_with fail
  refine (HL.out _).mono ?_
  rintro e w1 ⟨rfl, rfl⟩
  go_wp2_with fail
  go_ret
  exact ⟨rfl, HB.out⟩
set_option maxRecDepth 100000 in
set_option maxHeartbeats 8000000 in
theorem ref_enc7 (s : List UInt8) (n : Int) (l : List Rep) (ih : ∀ r ∈ l, EncAt r) (t : Bool) (vn : Int) (w : World) (cs : List Value) (hr : Liv w (.mk 7 s n l) cs) (hvn : (vn == 3) = t) (hfv : fits vn) (hlen : (enc t (.mk 7 s n l)).length ≤ 1048576) :
    Calls Tryd.prog 19 #[.agg cs.toArray, .int .i64 vn] w fun e w' => e = .returned (sv (enc t (.mk 7 s n l))) ∧ Below w.heap.size w w' := by
  obtain ⟨A, c, xs, rfl, hk1, hn1, hs1, hlc1, hcm1, hd1, hl1⟩ := hr.fields
  simp only [Rep.k, Rep.s, Rep.n, Rep.l] at *
  have hel : enc t (.mk 7 s n l) = hdr 42 l.length ++ encs t l.length l := by unfold enc; simp
  rw [hel] at hlen ⊢
  have hcount := encs_count t l l.length (Nat.le_refl _)
  have hlen' := hlen
  rw [List.length_append] at hlen'
  have hb := (Below.refl w.heap.size w).alloc (Nat.le_refl _) (.cells #[.int .i64 7, sv s, .int .i64 n, .slice A l.length c] 27)
  have hM := ref_many 42 l.length l.length l.length c t vn l ih rfl (Nat.le_refl _) (by omega) (w.alloc (.cells #[.int .i64 7, sv s, .int .i64 n, .slice A l.length c] 27)) A xs ((hd1.keep (fun p hp => hb.cell hp)).mono (fun b hb' => Nat.lt_of_lt_of_le hb' hb.size)) ((hl1.keep (fun p hp => hb.cell hp)).mono (fun b hb' => Nat.lt_of_lt_of_le hb' hb.size)) hvn hfv (by omega) hlen
  have HM := Lib.hid hM
  have HB := Lib.hid hb
  obtain ⟨X, hX⟩ : ∃ X, hdr 42 l.length ++ encs t l.length l = X := ⟨_, rfl⟩
  rw [hX] at HM ⊢
  clear hel hr hd1 hl1 hlen hlen' hcount hM hb hX ih
  go_enter Tryd.func19, Tryd.ntmps19
  go_wp2_with fail
  refine HM.out.mono ?_
  rintro e w1 ⟨rfl, hb1⟩
  go_wp2_with fail
  go_ret
  exact ⟨rfl, HB.out.trans (hb1.mono HB.out.size)⟩
set_option maxRecDepth 100000 in
set_option maxHeartbeats 8000000 in
theorem ref_enc8f (s : List UInt8) (n : Int) (l : List Rep) (ih : ∀ r ∈ l, EncAt r) (vn : Int) (w : World) (cs : List Value) (hr : Liv w (.mk 8 s n l) cs) (hvn : (vn == 3) = false) (hfv : fits vn) (hlen : (enc false (.mk 8 s n l)).length ≤ 1048576) :
    Calls Tryd.prog 19 #[.agg cs.toArray, .int .i64 vn] w fun e w' => e = .returned (sv (enc false (.mk 8 s n l))) ∧ Below w.heap.size w w' := by
  obtain ⟨A, c, xs, rfl, hk1, hn1, hs1, hlc1, hcm1, hd1, hl1⟩ := hr.fields
  simp only [Rep.k, Rep.s, Rep.n, Rep.l] at *
  have hel : enc false (.mk 8 s n l) = hdr 42 l.length ++ encs false l.length l := by unfold enc; simp
  rw [hel] at hlen ⊢
  have hcount := encs_count false l l.length (Nat.le_refl _)
  have hlen' := hlen
  rw [List.length_append] at hlen'
  have hb := (Below.refl w.heap.size w).alloc (Nat.le_refl _) (.cells #[.int .i64 8, sv s, .int .i64 n, .slice A l.length c] 27)
  have hM := ref_many 42 l.length l.length l.length c false vn l ih rfl (Nat.le_refl _) (by omega) (w.alloc (.cells #[.int .i64 8, sv s, .int .i64 n, .slice A l.length c] 27)) A xs ((hd1.keep (fun p hp => hb.cell hp)).mono (fun b hb' => Nat.lt_of_lt_of_le hb' hb.size)) ((hl1.keep (fun p hp => hb.cell hp)).mono (fun b hb' => Nat.lt_of_lt_of_le hb' hb.size)) hvn hfv (by omega) hlen
  have HM := Lib.hid hM
  have HB := Lib.hid hb
  obtain ⟨X, hX⟩ : ∃ X, hdr 42 l.length ++ encs false l.length l = X := ⟨_, rfl⟩
  rw [hX] at HM ⊢
  clear hel hr hd1 hl1 hlen hlen' hcount hM hb hX ih
  go_enter Tryd.func19, Tryd.ntmps19
  go_wp2_with fail
  refine HM.out.mono ?_
  rintro e w1 ⟨rfl, hb1⟩
  go_wp2_with fail
  go_ret
  exact ⟨rfl, HB.out.trans (hb1.mono HB.out.size)⟩
set_option maxRecDepth 100000 in
set_option maxHeartbeats 8000000 in
theorem ref_enc9f (s : List UInt8) (n : Int) (l : List Rep) (ih : ∀ r ∈ l, EncAt r) (vn : Int) (w : World) (cs : List Value) (hr : Liv w (.mk 9 s n l) cs) (hvn : (vn == 3) = false) (hfv : fits vn) (hlen : (enc false (.mk 9 s n l)).length ≤ 1048576) :
    Calls Tryd.prog 19 #[.agg cs.toArray, .int .i64 vn] w fun e w' => e = .returned (sv (enc false (.mk 9 s n l))) ∧ Below w.heap.size w w' := by
  obtain ⟨A, c, xs, rfl, hk1, hn1, hs1, hlc1, hcm1, hd1, hl1⟩ := hr.fields
  simp only [Rep.k, Rep.s, Rep.n, Rep.l] at *
  have hel : enc false (.mk 9 s n l) = hdr 42 l.length ++ encs false l.length l := by unfold enc; simp
  rw [hel] at hlen ⊢
  have hcount := encs_count false l l.length (Nat.le_refl _)
  have hlen' := hlen
  rw [List.length_append] at hlen'
  have hb := (Below.refl w.heap.size w).alloc (Nat.le_refl _) (.cells #[.int .i64 9, sv s, .int .i64 n, .slice A l.length c] 27)
  have hM := ref_many 42 l.length l.length l.length c false vn l ih rfl (Nat.le_refl _) (by omega) (w.alloc (.cells #[.int .i64 9, sv s, .int .i64 n, .slice A l.length c] 27)) A xs ((hd1.keep (fun p hp => hb.cell hp)).mono (fun b hb' => Nat.lt_of_lt_of_le hb' hb.size)) ((hl1.keep (fun p hp => hb.cell hp)).mono (fun b hb' => Nat.lt_of_lt_of_le hb' hb.size)) hvn hfv (by omega) hlen
  have HM := Lib.hid hM
  have HB := Lib.hid hb
  obtain ⟨X, hX⟩ : ∃ X, hdr 42 l.length ++ encs false l.length l = X := ⟨_, rfl⟩
  rw [hX] at HM ⊢
  clear hel hr hd1 hl1 hlen hlen' hcount hM hb hX ih
  go_enter Tryd.func19, Tryd.ntmps19
  go_wp2_with fail
  refine HM.out.mono ?_
  rintro e w1 ⟨rfl, hb1⟩
  go_wp2_with fail
  go_ret
  exact ⟨rfl, HB.out.trans (hb1.mono HB.out.size)⟩
set_option maxRecDepth 100000 in
set_option maxHeartbeats 8000000 in
theorem ref_enc9t (s : List UInt8) (n : Int) (l : List Rep) (ih : ∀ r ∈ l, EncAt r) (vn : Int) (w : World) (cs : List Value) (hr : Liv w (.mk 9 s n l) cs) (hvn : (vn == 3) = true) (hfv : fits vn) (hlen : (enc true (.mk 9 s n l)).length ≤ 1048576) :
    Calls Tryd.prog 19 #[.agg cs.toArray, .int .i64 vn] w fun e w' => e = .returned (sv (enc true (.mk 9 s n l))) ∧ Below w.heap.size w w' := by
  obtain ⟨A, c, xs, rfl, hk1, hn1, hs1, hlc1, hcm1, hd1, hl1⟩ := hr.fields
  simp only [Rep.k, Rep.s, Rep.n, Rep.l] at *
  have hel : enc true (.mk 9 s n l) = hdr 126 l.length ++ encs true l.length l := by unfold enc; simp
  rw [hel] at hlen ⊢
  have hcount := encs_count true l l.length (Nat.le_refl _)
  have hlen' := hlen
  rw [List.length_append] at hlen'
  have hb := (Below.refl w.heap.size w).alloc (Nat.le_refl _) (.cells #[.int .i64 9, sv s, .int .i64 n, .slice A l.length c] 27)
  have hM := ref_many 126 l.length l.length l.length c true vn l ih rfl (Nat.le_refl _) (by omega) (w.alloc (.cells #[.int .i64 9, sv s, .int .i64 n, .slice A l.length c] 27)) A xs ((hd1.keep (fun p hp => hb.cell hp)).mono (fun b hb' => Nat.lt_of_lt_of_le hb' hb.size)) ((hl1.keep (fun p hp => hb.cell hp)).mono (fun b hb' => Nat.lt_of_lt_of_le hb' hb.size)) hvn hfv (by omega) hlen
  have HM := Lib.hid hM
  have HB := Lib.hid hb
  obtain ⟨X, hX⟩ : ∃ X, hdr 126 l.length ++ encs true l.length l = X := ⟨_, rfl⟩
  rw [hX] at HM ⊢
  clear hel hr hd1 hl1 hlen hlen' hcount hM hb hX ih
  go_enter Tryd.func19, Tryd.ntmps19
  go_wp2_with fail
  refine HM.out.mono ?_
  rintro e w1 ⟨rfl, hb1⟩
  go_wp2_with fail
  go_ret
  exact ⟨rfl, HB.out.trans (hb1.mono HB.out.size)⟩
end Go.Proofs.YtjdnpgdedbegfaaDoor
/- The walk of the reference's Encode at the other kinds; at any reply. -/
namespace Go.Proofs.YtjdnpgdedbegfaaDoor
open Go.RowKit Go.Shelf
set_option linter.unusedVariables false

set_option maxRecDepth 100000 in
set_option maxHeartbeats 8000000 in
theorem ref_enc4 (s : List UInt8) (n : Int) (l : List Rep) : EncAt (.mk 4 s n l) := by
  intro t vn w cs hr hvn hfv hlen
  obtain ⟨A, c, xs, rfl, hk1, hn1, hs1, hlc1, hcm1, hd1, hl1⟩ := hr.fields
  simp only [Rep.k, Rep.s, Rep.n, Rep.l] at *
  have hel : enc t (.mk 4 s n l) = hdr 36 s.length ++ s ++ [13, 10] := by unfold enc; simp
  rw [hel] at hlen ⊢
  have hfl := Num.fmt_length (s.length : Int)
  have hsl : s.length ≤ 1048576 := by simp at hlen; omega
  have hL := fun w' => ref_format (s.length : Int) w' (by omega) (by omega)
  unfold hdr at hlen ⊢
  obtain ⟨f, hf⟩ : ∃ f, Num.fmt (s.length : Int) = f := ⟨_, rfl⟩
  rw [hf] at hL hfl hlen ⊢
  have a1 : ∀ w, (Op.stringOp .add (⟨#[36]⟩ : ByteArray) (bs f)).run Tryd.prog w = .ok (sv (36 :: f)) w := fun w => add_bs (a := [36]) (b := f) (by simp; omega) w
  have a2 : ∀ w, (Op.stringOp .add (bs (36 :: f)) (⟨#[13, 10]⟩ : ByteArray)).run Tryd.prog w = .ok (sv (36 :: f ++ [13, 10])) w := fun w => add_bs (a := 36 :: f) (b := [13, 10]) (by simp; omega) w
  obtain ⟨g, hg⟩ : ∃ g, 36 :: f ++ [13, 10] = g := ⟨_, rfl⟩
  have hgl : g.length ≤ 64 := by rw [← hg]; simp; omega
  rw [hg] at a2 hlen ⊢
  have a3 : ∀ w, (Op.stringOp .add (bs g) (bs s)).run Tryd.prog w = .ok (sv (g ++ s)) w := fun w => add_bs (by omega) w
  have a4 : ∀ w, (Op.stringOp .add (bs (g ++ s)) (⟨#[13, 10]⟩ : ByteArray)).run Tryd.prog w = .ok (sv (g ++ s ++ [13, 10])) w := fun w => add_bs (a := g ++ s) (b := [13, 10]) (by simp; omega) w
  have hS := bs_size s
  have HL := Lib.hid hL
  have HB := Lib.hid ((Below.refl w.heap.size w).alloc (Nat.le_refl _) (.cells #[.int .i64 4, sv s, .int .i64 n, .slice A l.length c] 27))
  have hx := (Blk.new w 27 #[.int .i64 4, sv s, .int .i64 n, .slice A l.length c]).x4
  have HX := Lib.hid hx
  obtain ⟨W, hW⟩ : ∃ W, w.alloc (.cells #[.int .i64 4, sv s, .int .i64 n, .slice A l.length c] 27) = W := ⟨_, rfl⟩
  rw [hW] at HB HX hx
  obtain ⟨x0, x1, x2, x3⟩ := hx
  clear hf hel hr hd1 hl1 hL hlen hfl hg
  go_enter Tryd.func19, Tryd.ntmps19
  go_wp2_with fail
  try rw [hW]
  clear hW
  go_region_held (fun w' => w'.cell? ⟨w.heap.size, 0, none⟩ = some (.int .i64 4) ∧ w'.cell? ⟨w.heap.size, 1, none⟩ = some (sv s) ∧ w'.cell? ⟨w.heap.size, 2, none⟩ = some (.int .i64 n) ∧ w'.cell? ⟨w.heap.size, 3, none⟩ = some (.slice A l.length c)) (first | exact HX.out | exact HX.out)
    (first | (go_at_call 28; refine (HL.out _).mono ?_; rintro e w1 ⟨rfl, rfl⟩))
  all_goals
    go_wp2_with fail
    go_ret
    rw [List.append_assoc]
    exact ⟨rfl, HB.out.drew⟩
set_option maxRecDepth 100000 in
set_option maxHeartbeats 8000000 in
theorem ref_enc8t (s : List UInt8) (n : Int) (l : List Rep) (ih : ∀ r ∈ l, EncAt r) (vn : Int) (w : World) (cs : List Value) (hr : Liv w (.mk 8 s n l) cs) (hvn : (vn == 3) = true) (hfv : fits vn) (hlen : (enc true (.mk 8 s n l)).length ≤ 1048576) :
    Calls Tryd.prog 19 #[.agg cs.toArray, .int .i64 vn] w fun e w' => e = .returned (sv (enc true (.mk 8 s n l))) ∧ Below w.heap.size w w' := by
  obtain ⟨A, c, xs, rfl, hk1, hn1, hs1, hlc1, hcm1, hd1, hl1⟩ := hr.fields
  simp only [Rep.k, Rep.s, Rep.n, Rep.l] at *
  have hel : enc true (.mk 8 s n l) = hdr 37 (l.length / 2) ++ encs true (2 * (l.length / 2)) l := by unfold enc; simp
  rw [hel] at hlen ⊢
  have hcount := encs_count true l (2 * (l.length / 2)) (by omega)
  have hlen' := hlen
  rw [List.length_append] at hlen'
  have hb := (Below.refl w.heap.size w).alloc (Nat.le_refl _) (.cells #[.int .i64 8, sv s, .int .i64 n, .slice A l.length c] 27)
  have hM := ref_many 37 (l.length / 2) (2 * (l.length / 2)) l.length c true vn l ih rfl (by omega) (by omega) (w.alloc (.cells #[.int .i64 8, sv s, .int .i64 n, .slice A l.length c] 27)) A xs ((hd1.keep (fun p hp => hb.cell hp)).mono (fun b hb' => Nat.lt_of_lt_of_le hb' hb.size)) ((hl1.keep (fun p hp => hb.cell hp)).mono (fun b hb' => Nat.lt_of_lt_of_le hb' hb.size)) hvn hfv (by omega) hlen
  obtain ⟨X, hX⟩ : ∃ X, hdr 37 (l.length / 2) ++ encs true (2 * (l.length / 2)) l = X := ⟨_, rfl⟩
  rw [hX] at hM ⊢
  obtain ⟨N, hN⟩ : ∃ N, l.length = N := ⟨_, rfl⟩
  rw [hN] at hM hcount hlc1 hb hlen' ⊢
  obtain ⟨H, hH⟩ : ∃ H, N / 2 = H := ⟨_, rfl⟩
  rw [hH] at hM hcount hlen'
  have e1 : (N : Int) / 2 = (H : Int) := by omega
  have hH1 : H ≤ 1048576 := by omega
  have hHN : 2 * (H : Int) ≤ (N : Int) := by omega
  have hHc : 2 * (H : Int) ≤ (c : Int) := by omega
  have hc1 : c ≤ 9223372036854775807 := by unfold maxLen at hcm1; omega
  have hNm : (N : Int) ≤ 9223372036854775807 := by omega
  have HM := Lib.hid hM
  have HB := Lib.hid hb
  have htn : (2 * (H : Int)).toNat = 2 * H := by omega
  have htd : (N : Int).tdiv 2 = (H : Int) := by rw [Int.tdiv_eq_ediv_of_nonneg (by omega)]; exact e1
  clear hel hr hd1 hl1 hlen hlen' hcount hM hb hX hN hH ih
  go_enter Tryd.func19, Tryd.ntmps19
  go_wp2_with fail
  try rw [htn]
  refine HM.out.mono ?_
  rintro e w1 ⟨rfl, hb1⟩
  go_wp2_with fail
  go_ret
  exact ⟨rfl, HB.out.trans (hb1.mono HB.out.size)⟩
set_option maxRecDepth 100000 in
set_option maxHeartbeats 8000000 in
theorem ref_enc6f (s : List UInt8) (n : Int) (l : List Rep) (vn : Int) (w : World) (cs : List Value) (hr : Liv w (.mk 6 s n l) cs) (hvn : (vn == 3) = false) (hfv : fits vn) :
    Calls Tryd.prog 19 #[.agg cs.toArray, .int .i64 vn] w fun e w' => e = .returned (sv (enc false (.mk 6 s n l))) ∧ Below w.heap.size w w' := by
  obtain ⟨A, c, xs, rfl, hk1, hn1, hs1, hlc1, hcm1, hd1, hl1⟩ := hr.fields
  simp only [Rep.k, Rep.s, Rep.n, Rep.l] at *
  have hel : enc false (.mk 6 s n l) = [42, 45, 49, 13, 10] := by unfold enc; simp
  rw [hel]
  have HB := Lib.hid ((Below.refl w.heap.size w).alloc (Nat.le_refl _) (.cells #[.int .i64 6, sv s, .int .i64 n, .slice A l.length c] 27))
  clear hel hr hd1 hl1
  go_enter Tryd.func19, Tryd.ntmps19
  go_wp2_with fail
  all_goals
    go_ret
    exact ⟨rfl, HB.out⟩
set_option maxRecDepth 100000 in
set_option maxHeartbeats 8000000 in
theorem ref_encf (k : Int) (h1 : k ≠ 1) (h2 : k ≠ 2) (h3 : k ≠ 3) (h4 : k ≠ 4) (h6 : k ≠ 6) (h7 : k ≠ 7) (h8 : k ≠ 8) (h9 : k ≠ 9) (s : List UInt8) (n : Int) (l : List Rep) (vn : Int) (w : World) (cs : List Value) (hr : Liv w (.mk k s n l) cs) (hvn : (vn == 3) = false) (hfv : fits vn) :
    Calls Tryd.prog 19 #[.agg cs.toArray, .int .i64 vn] w fun e w' => e = .returned (sv (enc false (.mk k s n l))) ∧ Below w.heap.size w w' := by
  obtain ⟨A, c, xs, rfl, hk1, hn1, hs1, hlc1, hcm1, hd1, hl1⟩ := hr.fields
  simp only [Rep.k, Rep.s, Rep.n, Rep.l] at *
  have hel : enc false (.mk k s n l) = [36, 45, 49, 13, 10] := by unfold enc; simp [h1, h2, h3, h4, h6, h7, h8, h9]
  rw [hel]
  have b1 : (k == 1) = false := by simpa using h1
  have b2 : (k == 2) = false := by simpa using h2
  have b3 : (k == 3) = false := by simpa using h3
  have b4 : (k == 4) = false := by simpa using h4
  have b6 : (k == 6) = false := by simpa using h6
  have b7 : (k == 7) = false := by simpa using h7
  have b8 : (k == 8) = false := by simpa using h8
  have b9 : (k == 9) = false := by simpa using h9
  have HB := Lib.hid ((Below.refl w.heap.size w).alloc (Nat.le_refl _) (.cells #[.int .i64 k, sv s, .int .i64 n, .slice A l.length c] 27))
  clear hel hr hd1 hl1
  go_enter Tryd.func19, Tryd.ntmps19
  go_wp2_with fail
  all_goals
    go_ret
    exact ⟨rfl, HB.out⟩
set_option maxRecDepth 100000 in
set_option maxHeartbeats 8000000 in
theorem ref_enct (k : Int) (h1 : k ≠ 1) (h2 : k ≠ 2) (h3 : k ≠ 3) (h4 : k ≠ 4) (h7 : k ≠ 7) (h8 : k ≠ 8) (h9 : k ≠ 9) (s : List UInt8) (n : Int) (l : List Rep) (vn : Int) (w : World) (cs : List Value) (hr : Liv w (.mk k s n l) cs) (hvn : (vn == 3) = true) (hfv : fits vn) :
    Calls Tryd.prog 19 #[.agg cs.toArray, .int .i64 vn] w fun e w' => e = .returned (sv (enc true (.mk k s n l))) ∧ Below w.heap.size w w' := by
  obtain ⟨A, c, xs, rfl, hk1, hn1, hs1, hlc1, hcm1, hd1, hl1⟩ := hr.fields
  simp only [Rep.k, Rep.s, Rep.n, Rep.l] at *
  have hel : enc true (.mk k s n l) = [95, 13, 10] := by unfold enc; simp [h1, h2, h3, h4, h7, h8, h9]
  rw [hel]
  have b1 : (k == 1) = false := by simpa using h1
  have b2 : (k == 2) = false := by simpa using h2
  have b3 : (k == 3) = false := by simpa using h3
  have b4 : (k == 4) = false := by simpa using h4
  have b7 : (k == 7) = false := by simpa using h7
  have b8 : (k == 8) = false := by simpa using h8
  have b9 : (k == 9) = false := by simpa using h9
  have HB := Lib.hid ((Below.refl w.heap.size w).alloc (Nat.le_refl _) (.cells #[.int .i64 k, sv s, .int .i64 n, .slice A l.length c] 27))
  clear hel hr hd1 hl1
  go_enter Tryd.func19, Tryd.ntmps19
  go_wp2_with fail
  all_goals
    go_ret
    exact ⟨rfl, HB.out⟩
theorem ref_encode : ∀ (N : Nat) (r : Rep), SizeOf.sizeOf r ≤ N → EncAt r
  | 0, r, h => by cases r; simp at h
  | N + 1, .mk k s n l, h => by
    have ih : ∀ r ∈ l, EncAt r := fun r hr => ref_encode N r (by have := sizeOf_mem (k := k) (n := n) (s := s) hr; omega)
    by_cases h1 : k = 1
    · subst h1; exact ref_enc1 s n l
    by_cases h2 : k = 2
    · subst h2; exact ref_enc2 s n l
    by_cases h3 : k = 3
    · subst h3; exact ref_enc3 s n l
    by_cases h4 : k = 4
    · subst h4; exact ref_enc4 s n l
    by_cases h7 : k = 7
    · subst h7; intro t vn w cs hr hvn hfv hlen; exact ref_enc7 s n l ih t vn w cs hr hvn hfv hlen
    by_cases h8 : k = 8
    · subst h8; intro t vn w cs hr hvn hfv hlen
      cases t with
      | true => exact ref_enc8t s n l ih vn w cs hr hvn hfv hlen
      | false => exact ref_enc8f s n l ih vn w cs hr hvn hfv hlen
    by_cases h9 : k = 9
    · subst h9; intro t vn w cs hr hvn hfv hlen
      cases t with
      | true => exact ref_enc9t s n l ih vn w cs hr hvn hfv hlen
      | false => exact ref_enc9f s n l ih vn w cs hr hvn hfv hlen
    intro t vn w cs hr hvn hfv hlen
    cases t with
    | true => exact ref_enct k h1 h2 h3 h4 h7 h8 h9 s n l vn w cs hr hvn hfv
    | false =>
      by_cases h6 : k = 6
      · subst h6; exact ref_enc6f s n l vn w cs hr hvn hfv
      · exact ref_encf k h1 h2 h3 h4 h6 h7 h8 h9 s n l vn w cs hr hvn hfv
end Go.Proofs.YtjdnpgdedbegfaaDoor
