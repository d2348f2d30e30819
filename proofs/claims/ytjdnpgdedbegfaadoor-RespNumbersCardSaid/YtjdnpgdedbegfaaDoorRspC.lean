import Derived.Test.YtjdnpgdedbegfaaDoorRepO
import Derived.Ground.NamesProg
import Derived.Shelf.Lay
import Derived.Shelf.Strings.Replace
import Derived.Lib.SlBytesConst
/- The library's strings.ReplaceAll and slices.Clone, by the shelf's contracts, in our words; the walk of resp's line. -/
namespace Go.Proofs
open Go.Shelf
shelf_lay Lays.n155 Nm 155 at Tryd as Tryd.lays155
theorem Tryd.extra155 : Builder.Extra Tryd.prog Tryd.lays155_ren where
  sizeBuilder := by kernel_rfl
  liesBuilder := by kernel_rfl
  t5 := Tryd.lays155.t5
  a5 := Tryd.lays155.a5
  z5 := Tryd.lays155.z5
  v5 := Tryd.lays155.v5
  infoByte := by kernel_rfl
  cellsByte := by kernel_rfl
  sizeByte := by kernel_rfl
  neB5 := by decide
end Go.Proofs
namespace Go.Proofs.YtjdnpgdedbegfaaDoor
open Go.RowKit Go.Shelf
set_option linter.unusedVariables false

/-- The cell of the library's own variable holds some number. -/
def My (w : World) : Prop := ∃ m : Int, w.cell? ⟨Tryd.lays155_ren.g 1, 0, none⟩ = some (.int .i64 m)
theorem My.lt {w : World} (h : My w) : Tryd.lays155_ren.g 1 < w.heap.size := by
  obtain ⟨m, hm⟩ := h
  rcases Nat.lt_or_ge (Tryd.lays155_ren.g 1) w.heap.size with h' | h'
  · exact h'
  · simp [World.cell?, Array.getElem?_eq_none h'] at hm
theorem My.below {w w' : World} {B : Nat} (h : My w) (hb : Below B w w') (hB : Tryd.lays155_ren.g 1 < B) : My w' := by
  obtain ⟨m, hm⟩ := h
  exact ⟨m, (hb.cell (p := ⟨Tryd.lays155_ren.g 1, 0, none⟩) hB).trans hm⟩
theorem My.below_ {w w' : World} (h : My w) (hb : Below w.heap.size w w') : My w' := h.below hb h.lt
theorem My.drewN {w : World} (h : My w) (q : Nat) : My (w.drewN q) := h
theorem My.drew {w : World} (h : My w) : My w.drew := h
theorem My.alloc {w : World} (h : My w) (o : Obj) : My (w.alloc o) := h.below_ ((Below.refl _ _).alloc (Nat.le_refl _) o)

def one (c d x : UInt8) : UInt8 := if x = c then d else x
theorem replace_one (c d : UInt8) : ∀ l : List UInt8, Lib.replaceK [c] [d] (l.count c) l = l.map (one c d)
  | [] => rfl
  | b :: l => by
    have ih := replace_one c d l
    by_cases hb : b = c
    · subst hb
      rw [List.count_cons_self]
      rw [Lib.replaceK_hit [b] [d] _ _ 0 (by rw [Lib.index_one]; simp [Lib.indexByte])]
      simp [one, ih]
    · rw [List.count_cons_of_ne hb]
      rw [List.map_cons, ← ih]
      have e : one c d b = b := if_neg hb
      rw [e]
      cases hk : l.count c with
      | zero => rfl
      | succ k =>
        obtain ⟨i, hi⟩ := Lib.index_of_count (s := l) (old := [c]) (by rw [Lib.count_one, hk]; omega)
        have hi' : Lib.index (b :: l) [c] = (i + 1 : Nat) := by
          rw [Lib.index_one] at hi ⊢
          unfold Lib.indexByte
          rw [if_neg (by simpa using hb), hi]
          simp
        rw [Lib.replaceK_hit _ _ _ _ _ hi, Lib.replaceK_hit _ _ _ _ _ hi']
        simp
theorem replaceAll_one {c d : UInt8} (h : c ≠ d) (l : List UInt8) : Lib.replaceAll l [c] [d] = l.map (one c d) := by
  unfold Lib.replaceAll Lib.replace
  rw [if_neg (by simpa using h)]
  unfold Lib.replaceNum
  rw [if_pos (by omega), Lib.count_one, replace_one]
/-- One byte in another's place. -/
def ones (c d : UInt8) (l : List UInt8) : List UInt8 := l.map (one c d)
theorem ones_len (c d : UInt8) (l : List UInt8) : (ones c d l).length = l.length := by simp [ones]
theorem replace_all {c d : UInt8} (h : c ≠ d) (l : List UInt8) (w : World) (hl : l.length ≤ 1048576) (hm : My w) :
    Calls Tryd.prog 37 #[.string (bs l), .string ⟨#[c]⟩, .string ⟨#[d]⟩] w fun e w' => e = .returned (sv (ones c d l)) ∧ Below w.heap.size w w' := by
  obtain ⟨m, hm⟩ := hm
  have hc : Lib.countB (bs l) ⟨#[c]⟩ ≤ l.length := by
    show Lib.count _ _ ≤ _
    show Lib.count l [c] ≤ _
    rw [Lib.count_one]; exact List.count_le_length
  refine (Any.strings_ReplaceAll Tryd.lays155 Tryd.extra155 (bs l) ⟨#[c]⟩ ⟨#[d]⟩ m w (by rw [bs_size]; omega) hm (Nat.le_refl 1) ?_).mono ?_
  · rw [bs_size]
    show _ + _ * 1 ≤ _
    omega
  · rintro e w' ⟨rfl, hw⟩
    refine ⟨?_, hw⟩
    show _ = Ending.returned (.string (bs _))
    have e : ones c d l = Lib.replaceAll l [c] [d] := (replaceAll_one h l).symm
    rw [e]
    rfl

/-- A text without ends of lines. -/
def cln (l : List UInt8) : List UInt8 := ones 10 32 (ones 13 32 l)
theorem cln_len (l : List UInt8) : (cln l).length = l.length := by simp [cln, ones_len]
set_option maxRecDepth 100000 in
theorem line_any (l : List UInt8) (w : World) (hl : l.length ≤ 1048576) (hm : My w) :
    Calls Tryd.prog 24 #[.string (bs l)] w fun e w' => e = .returned (sv (cln l)) ∧ Below w.heap.size w w' := by
  have HC1 := Lib.hid (replace_all (c := 13) (d := 32) (by decide) l w hl hm)
  have HC2 := Lib.hid (fun w' hb => replace_all (c := 10) (d := 32) (by decide) (ones 13 32 l) w' (by rw [ones_len]; exact hl) (hm.below_ hb))
  go_enter Tryd.func24, Tryd.ntmps24
  go_wp2_with fail
  refine HC1.out.mono ?_
  rintro e w1 ⟨rfl, hb1⟩
  go_wp2_with fail
  refine (HC2.out w1 hb1).mono ?_
  rintro e w2 ⟨rfl, hb2⟩
  go_wp2_with fail
  go_ret
  exact ⟨rfl, below_trans hb1 hb2⟩
end Go.Proofs.YtjdnpgdedbegfaaDoor
/- Replies as bytes; the walks of resp's head and of put at the kinds without parts. -/
namespace Go.Proofs.YtjdnpgdedbegfaaDoor
open Go.RowKit Go.Shelf
set_option linter.unusedVariables false

theorem add_bs {a b : List UInt8} (h : a.length + b.length ≤ 9223372036854775807) (w : World) : (Op.stringOp .add (bs a) (bs b)).run Tryd.prog w = .ok (sv (a ++ b)) w :=
  (run_string_add_sum w _ _ (by simp; omega)).trans (by rw [bs_append])
theorem Own.sliceForm {w : World} {B e size n : Nat} {v : Value} {xs : List Value} (h : Own w B e size v n xs) : ∃ A c, v = .slice A n c := by
  rcases h.form with ⟨h1, h2⟩ | ⟨g, cap, h1, _⟩
  · exact ⟨none, 0, by rw [h1, h2]⟩
  · exact ⟨_, _, h1⟩
theorem OB.sliceForm {w : World} {B e : Nat} {v : Value} {l : List UInt8} (h : OB w B e v l) : ∃ A c, v = .slice A l.length c := Own.sliceForm h
/-- A kind's first byte, a number, the end of the line. -/
def hdr (c : UInt8) (n : Nat) : List UInt8 := c :: Num.fmt (n : Int) ++ [13, 10]
theorem hdr_len (c : UInt8) (n : Nat) (h : n ≤ 1048576) : (hdr c n).length ≤ 64 := by
  have := (Num.fmt_length (n : Int)).2
  unfold hdr
  simp only [List.length_cons, List.length_append, List.length_nil]
  omega
mutual
/-- What is written: t: in version 3. -/
def enc (t : Bool) : Rep → List UInt8
  | .mk k s n l =>
    if k = 1 then 43 :: cln s ++ [13, 10]
    else if k = 2 then 45 :: cln s ++ [13, 10]
    else if k = 3 then 58 :: Num.fmt n ++ [13, 10]
    else if k = 4 then hdr 36 s.length ++ s ++ [13, 10]
    else if k = 8 ∧ t = true then hdr 37 (l.length / 2) ++ encs t (2 * (l.length / 2)) l
    else if k = 9 ∧ t = true then hdr 126 l.length ++ encs t l.length l
    else if k = 7 ∨ k = 8 ∨ k = 9 then hdr 42 l.length ++ encs t l.length l
    else if t = true then [95, 13, 10]
    else if k = 6 then [42, 45, 49, 13, 10] else [36, 45, 49, 13, 10]
/-- The first m of a row. -/
def encs (t : Bool) : Nat → List Rep → List UInt8
  | _, [] => []
  | m, r :: l => if m = 0 then [] else enc t r ++ encs t (m - 1) l
end
theorem encs_take (t : Bool) : ∀ (l : List Rep) (m : Nat), encs t m l = ((l.take m).map (enc t)).flatten
  | [], m => by unfold encs; simp
  | r :: l, 0 => by unfold encs; simp
  | r :: l, m + 1 => by unfold encs; simp [encs_take t l m]

set_option maxRecDepth 100000 in
theorem head_any (c : UInt8) (n : Nat) (w : World) (hn : n ≤ 1048576) :
    Calls Tryd.prog 32 #[.string ⟨#[c]⟩, .int .i64 n] w fun e w' => e = .returned (sv (hdr c n)) ∧ Below w.heap.size w w' := by
  have hfl := Num.fmt_length (n : Int)
  obtain ⟨f, hf⟩ : ∃ f, Num.fmt (n : Int) = f := ⟨_, rfl⟩
  have hfm := fun w => format_any (n : Int) w (by omega) (by omega)
  rw [hf] at hfl hfm
  obtain ⟨hd, hhd⟩ : ∃ hd, (c :: f) ++ [13, 10] = hd := ⟨_, rfl⟩
  have HM := Lib.hid (show hdr c n = hd by unfold hdr; rw [hf, ← hhd])
  have a1 : ∀ w, (Op.stringOp .add (⟨#[c]⟩ : ByteArray) (bs f)).run Tryd.prog w = .ok (sv (c :: f)) w := fun w => add_bs (a := [c]) (b := f) (by simp; omega) w
  have a2 : ∀ w, (Op.stringOp .add (bs (c :: f)) (⟨#[13, 10]⟩ : ByteArray)).run Tryd.prog w = .ok (sv hd) w := fun w => by rw [← hhd]; exact add_bs (a := c :: f) (b := [13, 10]) (by simp; omega) w
  clear hf hhd
  go_enter Tryd.func32, Tryd.ntmps32
  go_wp2_with fail
  refine (hfm w).mono ?_
  rintro e w1 ⟨rfl, hb1⟩
  go_wp2_with fail
  go_ret
  exact ⟨by rw [HM.out]; rfl, hb1⟩

/-- What put asks and gives. -/
def PutAt (r : Rep) : Prop := ∀ (w : World) (cs : List Value) (B : Nat) (v : Value) (acc : List UInt8) (t : Bool) (vn : Int), RV w (fun b => b < B) r cs → OB w B 5 v acc → B ≤ w.heap.size → My w → Tryd.lays155_ren.g 1 < B → (vn == 3) = t → fits vn → acc.length + (enc t r).length ≤ 1048576 →
    Calls Tryd.prog 21 #[v, .agg cs.toArray, .int .i64 vn] w fun e w' => ∃ v', e = .returned v' ∧ OB w' B 5 v' (acc ++ enc t r) ∧ Below B w w'

set_option maxRecDepth 100000 in
set_option maxHeartbeats 4000000 in
theorem put_simple (s : List UInt8) (n : Int) (l : List Rep) : PutAt (.mk 1 s n l) := by
  intro w cs B v acc t vn hr hob hB hmy hgB hvn hfv hlen
  obtain ⟨i0, hi, hz0, hz1, hz2⟩ := info_parts u8info
  obtain ⟨A, c, xs, rfl, hk1, hn1, hs1, hlc1, hcm1, hd1, hl1⟩ := hr.fields
  obtain ⟨A2, cc, rfl⟩ := hob.sliceForm
  simp only [Rep.k, Rep.s, Rep.n, Rep.l] at *
  have hel : enc t (.mk 1 s n l) = 43 :: cln s ++ [13, 10] := by unfold enc; simp
  rw [hel] at hlen ⊢
  obtain ⟨mb, hmb⟩ : ∃ mb, 43 :: cln s ++ [13, 10] = mb := ⟨_, rfl⟩
  have hml : mb.length = s.length + 3 := by rw [← hmb]; simp [cln_len]
  rw [hmb] at hlen ⊢
  have hcl : (cln s).length ≤ 1048576 := by rw [cln_len]; omega
  have a1 : ∀ w, (Op.stringOp .add (⟨#[43]⟩ : ByteArray) (bs (cln s))).run Tryd.prog w = .ok (sv (43 :: cln s)) w := fun w => add_bs (a := [43]) (b := cln s) (by simp; omega) w
  have a2 : ∀ w, (Op.stringOp .add (bs (43 :: cln s)) (⟨#[13, 10]⟩ : ByteArray)).run Tryd.prog w = .ok (sv mb) w := fun w => by rw [← hmb]; exact add_bs (a := 43 :: cln s) (b := [13, 10]) (by simp; omega) w
  have HC := Lib.hid (line_any s (w.alloc (.cells #[.int .i64 1, sv s, .int .i64 n, .slice A l.length c] 27)) (by omega) (hmy.alloc _))
  have HB1 := Lib.hid (((Below.refl B w).alloc hB (.cells #[.int .i64 1, sv s, .int .i64 n, .slice A l.length c] 27)))
  have hob1 := Own.below hob ((Below.refl w.heap.size w).alloc (Nat.le_refl _) (.cells #[.int .i64 1, sv s, .int .i64 n, .slice A l.length c] 27)) (fun k hk => (hob.lt k hk).2)
  have hmlb : mb.length ≤ 1048576 := by omega
  have hal : acc.length + mb.length ≤ 1048576 := hlen
  clear hmb hel hml hr hd1 hl1
  go_enter Tryd.func21, Tryd.ntmps21
  go_wp2_with fail
  refine HC.out.mono ?_
  rintro e w1 ⟨rfl, hb1⟩
  have hob2 := Own.below_ hob1 hb1
  have hbl := HB1.out.trans (hb1.mono (by simp; omega))
  have hbs1 : B ≤ w1.heap.size := by have := hb1.size; simp at this; omega
  go_wp2_with (at_builtin; refine wpList_append_Own _ rfl (.tmp 31) (.tmp 36) _ _ rfl B 5 i0 _ 1 1 Tryd.underlying23 hi hz0 hz1 hz2 rfl (.slice A2 acc.length cc) acc.length (bv acc) rfl hob2 _ _ _ rfl (Src.str (bs mb) Tryd.underlying9) (by rw [bs_size]; unfold maxLen; omega) (by rw [bs_size]; omega) (by omega) ?_; intro v1 w2 hO2 hgr hat)
  rw [bs_size, strCells_bv, bs_data, ← bv_append] at hO2
  go_ret
  exact ⟨_, rfl, OB.mk hO2 rfl, hbl.grown hgr hbs1 (fun k hk => (hob2.lt k hk).1)⟩

set_option maxRecDepth 100000 in
set_option maxHeartbeats 4000000 in
theorem put_error (s : List UInt8) (n : Int) (l : List Rep) : PutAt (.mk 2 s n l) := by
  intro w cs B v acc t vn hr hob hB hmy hgB hvn hfv hlen
  obtain ⟨i0, hi, hz0, hz1, hz2⟩ := info_parts u8info
  obtain ⟨A, c, xs, rfl, hk1, hn1, hs1, hlc1, hcm1, hd1, hl1⟩ := hr.fields
  obtain ⟨A2, cc, rfl⟩ := hob.sliceForm
  simp only [Rep.k, Rep.s, Rep.n, Rep.l] at *
  have hel : enc t (.mk 2 s n l) = 45 :: cln s ++ [13, 10] := by unfold enc; simp
  rw [hel] at hlen ⊢
  obtain ⟨mb, hmb⟩ : ∃ mb, 45 :: cln s ++ [13, 10] = mb := ⟨_, rfl⟩
  have hml : mb.length = s.length + 3 := by rw [← hmb]; simp [cln_len]
  rw [hmb] at hlen ⊢
  have hcl : (cln s).length ≤ 1048576 := by rw [cln_len]; omega
  have a1 : ∀ w, (Op.stringOp .add (⟨#[45]⟩ : ByteArray) (bs (cln s))).run Tryd.prog w = .ok (sv (45 :: cln s)) w := fun w => add_bs (a := [45]) (b := cln s) (by simp; omega) w
  have a2 : ∀ w, (Op.stringOp .add (bs (45 :: cln s)) (⟨#[13, 10]⟩ : ByteArray)).run Tryd.prog w = .ok (sv mb) w := fun w => by rw [← hmb]; exact add_bs (a := 45 :: cln s) (b := [13, 10]) (by simp; omega) w
  have HC := Lib.hid (line_any s (w.alloc (.cells #[.int .i64 2, sv s, .int .i64 n, .slice A l.length c] 27)) (by omega) (hmy.alloc _))
  have HB1 := Lib.hid (((Below.refl B w).alloc hB (.cells #[.int .i64 2, sv s, .int .i64 n, .slice A l.length c] 27)))
  have hob1 := Own.below hob ((Below.refl w.heap.size w).alloc (Nat.le_refl _) (.cells #[.int .i64 2, sv s, .int .i64 n, .slice A l.length c] 27)) (fun k hk => (hob.lt k hk).2)
  have hmlb : mb.length ≤ 1048576 := by omega
  have hal : acc.length + mb.length ≤ 1048576 := hlen
  clear hmb hel hml hr hd1 hl1
  go_enter Tryd.func21, Tryd.ntmps21
  go_wp2_with fail
  refine HC.out.mono ?_
  rintro e w1 ⟨rfl, hb1⟩
  have hob2 := Own.below_ hob1 hb1
  have hbl := HB1.out.trans (hb1.mono (by simp; omega))
  have hbs1 : B ≤ w1.heap.size := by have := hb1.size; simp at this; omega
  go_wp2_with (at_builtin; refine wpList_append_Own _ rfl (.tmp 38) (.tmp 43) _ _ rfl B 5 i0 _ 1 1 Tryd.underlying23 hi hz0 hz1 hz2 rfl (.slice A2 acc.length cc) acc.length (bv acc) rfl hob2 _ _ _ rfl (Src.str (bs mb) Tryd.underlying9) (by rw [bs_size]; unfold maxLen; omega) (by rw [bs_size]; omega) (by omega) ?_; intro v1 w2 hO2 hgr hat)
  rw [bs_size, strCells_bv, bs_data, ← bv_append] at hO2
  go_ret
  exact ⟨_, rfl, OB.mk hO2 rfl, hbl.grown hgr hbs1 (fun k hk => (hob2.lt k hk).1)⟩

set_option maxRecDepth 100000 in
set_option maxHeartbeats 4000000 in
theorem put_int (s : List UInt8) (n : Int) (l : List Rep) : PutAt (.mk 3 s n l) := by
  intro w cs B v acc t vn hr hob hB hmy hgB hvn hfv hlen
  obtain ⟨i0, hi, hz0, hz1, hz2⟩ := info_parts u8info
  obtain ⟨A, c, xs, rfl, hk1, hn1, hs1, hlc1, hcm1, hd1, hl1⟩ := hr.fields
  obtain ⟨A2, cc, rfl⟩ := hob.sliceForm
  simp only [Rep.k, Rep.s, Rep.n, Rep.l] at *
  have hel : enc t (.mk 3 s n l) = 58 :: Num.fmt n ++ [13, 10] := by unfold enc; simp
  rw [hel] at hlen ⊢
  have hfl := (Num.fmt_length n).2
  have hfm := fun w => format_any n w hn1.1 hn1.2
  obtain ⟨f, hf⟩ : ∃ f, Num.fmt n = f := ⟨_, rfl⟩
  rw [hf] at hlen hfl hfm ⊢
  obtain ⟨mb, hmb⟩ : ∃ mb, 58 :: f ++ [13, 10] = mb := ⟨_, rfl⟩
  rw [hmb] at hlen ⊢
  have a1 : ∀ w, (Op.stringOp .add (⟨#[58]⟩ : ByteArray) (bs f)).run Tryd.prog w = .ok (sv (58 :: f)) w := fun w => add_bs (a := [58]) (b := f) (by simp; omega) w
  have a2 : ∀ w, (Op.stringOp .add (bs (58 :: f)) (⟨#[13, 10]⟩ : ByteArray)).run Tryd.prog w = .ok (sv mb) w := fun w => by rw [← hmb]; exact add_bs (a := 58 :: f) (b := [13, 10]) (by simp; omega) w
  have HB1 := Lib.hid (((Below.refl B w).alloc hB (.cells #[.int .i64 3, sv s, .int .i64 n, .slice A l.length c] 27)))
  have hob1 := Own.below hob ((Below.refl w.heap.size w).alloc (Nat.le_refl _) (.cells #[.int .i64 3, sv s, .int .i64 n, .slice A l.length c] 27)) (fun k hk => (hob.lt k hk).2)
  clear hf hmb hel hr hd1 hl1
  go_enter Tryd.func21, Tryd.ntmps21
  go_wp2_with fail
  refine (hfm _).mono ?_
  rintro e w1 ⟨rfl, hb1⟩
  have hob2 := Own.below_ hob1 hb1
  have hbl := HB1.out.trans (hb1.mono (by simp; omega))
  have hbs1 : B ≤ w1.heap.size := by have := hb1.size; simp at this; omega
  go_wp2_with (at_builtin; refine wpList_append_Own _ rfl (.tmp 45) (.tmp 50) _ _ rfl B 5 i0 _ 1 1 Tryd.underlying23 hi hz0 hz1 hz2 rfl (.slice A2 acc.length cc) acc.length (bv acc) rfl hob2 _ _ _ rfl (Src.str (bs mb) Tryd.underlying9) (by rw [bs_size]; unfold maxLen; omega) (by rw [bs_size]; omega) (by omega) ?_; intro v1 w2 hO2 hgr hat)
  rw [bs_size, strCells_bv, bs_data, ← bv_append] at hO2
  go_ret
  exact ⟨_, rfl, OB.mk hO2 rfl, hbl.grown hgr hbs1 (fun k hk => (hob2.lt k hk).1)⟩

set_option maxRecDepth 100000 in
set_option maxHeartbeats 4000000 in
theorem put_bulk (s : List UInt8) (n : Int) (l : List Rep) : PutAt (.mk 4 s n l) := by
  intro w cs B v acc t vn hr hob hB hmy hgB hvn hfv hlen
  obtain ⟨i0, hi, hz0, hz1, hz2⟩ := info_parts u8info
  obtain ⟨A, c, xs, rfl, hk1, hn1, hs1, hlc1, hcm1, hd1, hl1⟩ := hr.fields
  obtain ⟨A2, cc, rfl⟩ := hob.sliceForm
  simp only [Rep.k, Rep.s, Rep.n, Rep.l] at *
  have hel : enc t (.mk 4 s n l) = hdr 36 s.length ++ s ++ [13, 10] := by unfold enc; simp
  rw [hel] at hlen ⊢
  have hsl : s.length ≤ 1048576 := by simp only [List.length_append] at hlen; omega
  have hfl := hdr_len 36 s.length hsl
  have HH := Lib.hid (fun w => head_any 36 s.length w hsl)
  obtain ⟨f, hf⟩ : ∃ f, hdr 36 s.length = f := ⟨_, rfl⟩
  rw [hf] at hlen hfl HH ⊢
  obtain ⟨b1, hb1⟩ : ∃ b1, f ++ s = b1 := ⟨_, rfl⟩
  have hb1l : b1.length ≤ 1048640 := by rw [← hb1]; simp; omega
  obtain ⟨mb, hmb⟩ : ∃ mb, b1 ++ [13, 10] = mb := ⟨_, rfl⟩
  rw [hb1, hmb] at hlen ⊢
  have a1 : ∀ w, (Op.stringOp .add (bs f) (bs s)).run Tryd.prog w = .ok (sv b1) w := fun w => by rw [← hb1]; exact add_bs (by omega) w
  have a2 : ∀ w, (Op.stringOp .add (bs b1) (⟨#[13, 10]⟩ : ByteArray)).run Tryd.prog w = .ok (sv mb) w := fun w => by rw [← hmb]; exact add_bs (b := [13, 10]) (by simp; omega) w
  have hBx : Blk (w.alloc (.cells #[.int .i64 4, sv s, .int .i64 n, .slice A l.length c] 27)) w.heap.size 27 #[.int .i64 4, sv s, .int .i64 n, .slice A l.length c] := Blk.new w _ _
  have HB1 := (Below.refl B w).alloc hB (.cells #[.int .i64 4, sv s, .int .i64 n, .slice A l.length c] 27)
  have hob1 := Own.below hob ((Below.refl w.heap.size w).alloc (Nat.le_refl _) (.cells #[.int .i64 4, sv s, .int .i64 n, .slice A l.length c] 27)) (fun k hk => (hob.lt k hk).2)
  clear hf hmb hb1 hel hr hd1 hl1
  go_enter Tryd.func21, Tryd.ntmps21
  go_wp2_with fail
  obtain ⟨w0, hw0⟩ : ∃ w0, (w.alloc (.cells #[.int .i64 4, sv s, .int .i64 n, .slice A l.length c] 27)) = w0 := ⟨_, rfl⟩
  rw [hw0] at hBx HB1 hob1 ⊢
  have hc1 := hBx.cell 1
  have hbs0 : B ≤ w0.heap.size := Nat.le_trans hB HB1.size
  have HK := Lib.hid (fun w' (hb : Below w0.heap.size w0 w') => (show w'.cell? ⟨w.heap.size, 1, none⟩ = some (sv s) from (hb.cell (p := ⟨w.heap.size, 1, none⟩) hBx.lt).trans hc1))
  have hne : some w.heap.size ≠ (Value.slice A2 acc.length cc).ownBlock := fun e => by have := (hob.lt _ e.symm).2; omega
  have HG := Lib.hid (fun w1 w2 (hb : Below w0.heap.size w0 w1) (hg : w1.grownBy w2 (Value.slice A2 acc.length cc).ownBlock) => (show w2.cell? ⟨w.heap.size, 1, none⟩ = some (sv s) from ((hBx.below hb hBx.lt).grown hg hne).cell 1))
  have hS0 : Below w0.heap.size w0 w0 := Below.refl _ _
  clear hw0 hBx
  go_region_held3 (fun w' => w'.cell? ⟨w.heap.size, 1, none⟩ = some (sv s)) (first | exact hcx | exact HK.out _ hS0 | exact HK.out _ hS0.drew)
    (first
      | (go_at_call 32; refine (HH.out _).mono ?_; rintro e w1 ⟨rfl, hb1⟩; have hS0 := below_trans hS0.drew hb1; have hob2 := Own.below_ hob1 hS0; have hbs1 : B ≤ w1.heap.size := Nat.le_trans hbs0 hS0.size)
      | (refine step_append_Own _ rfl (.tmp 52) (.tmp 60) _ _ rfl B 5 i0 _ 1 1 Tryd.underlying23 hi hz0 hz1 hz2 rfl (.slice A2 acc.length cc) acc.length (bv acc) rfl hob2 _ _ _ rfl (Src.str (bs mb) Tryd.underlying9) (by rw [bs_size]; unfold maxLen; omega) (by rw [bs_size]; omega) (by omega) ?_; intro v1 w2 hO2 hgr hat; have hcx := HG.out _ _ hS0 hgr))
  have hbl := HB1.trans (hS0.mono hbs0)
  go_wp2_with fail
  rw [bs_size, strCells_bv, bs_data, ← bv_append] at hO2
  go_ret
  exact ⟨_, rfl, OB.mk hO2 rfl, hbl.grown hgr hbs1 (fun k hk => (hob2.lt k hk).1)⟩
end Go.Proofs.YtjdnpgdedbegfaaDoor
/- The walk of put at the kinds that are null. -/
namespace Go.Proofs.YtjdnpgdedbegfaaDoor
open Go.RowKit Go.Shelf
set_option linter.unusedVariables false

set_option maxRecDepth 100000 in
set_option maxHeartbeats 4000000 in
theorem put_na2 (s : List UInt8) (n : Int) (l : List Rep) (w : World) (cs : List Value) (B : Nat) (v : Value) (acc : List UInt8) (vn : Int) (hr : RV w (fun b => b < B) (.mk 6 s n l) cs) (hob : OB w B 5 v acc) (hB : B ≤ w.heap.size) (hvn : (vn == 3) = false) (hlen : acc.length + (enc false (.mk 6 s n l)).length ≤ 1048576) :
    Calls Tryd.prog 21 #[v, .agg cs.toArray, .int .i64 vn] w fun e w' => ∃ v', e = .returned v' ∧ OB w' B 5 v' (acc ++ enc false (.mk 6 s n l)) ∧ Below B w w' := by
  obtain ⟨i0, hi, hz0, hz1, hz2⟩ := info_parts u8info
  obtain ⟨A, c, xs, rfl, hk1, hn1, hs1, hlc1, hcm1, hd1, hl1⟩ := hr.fields
  obtain ⟨A2, cc, rfl⟩ := hob.sliceForm
  simp only [Rep.k, Rep.s, Rep.n, Rep.l] at *
  have hel : enc false (.mk 6 s n l) = [42, 45, 49, 13, 10] := by unfold enc; simp
  rw [hel] at hlen ⊢
  have hmb : (bs [42, 45, 49, 13, 10]).size = 5 := rfl
  have hal : acc.length + 5 ≤ 1048576 := hlen
  have hvm : (vn != 3) = true := by rw [bne, hvn]; rfl
  have HB1 := (Below.refl B w).alloc hB (.cells #[.int .i64 6, sv s, .int .i64 n, .slice A l.length c] 27)
  have hob1 := Own.below hob ((Below.refl w.heap.size w).alloc (Nat.le_refl _) (.cells #[.int .i64 6, sv s, .int .i64 n, .slice A l.length c] 27)) (fun k hk => (hob.lt k hk).2)
  have hbs1 := Nat.le_trans hB HB1.size
  clear hel hlen hr hd1 hl1
  go_enter Tryd.func21, Tryd.ntmps21
  go_wp2_with (at_builtin; refine wpList_append_Own _ rfl (.tmp 89) _ _ _ rfl B 5 i0 _ 1 1 Tryd.underlying23 hi hz0 hz1 hz2 rfl (.slice A2 acc.length cc) acc.length (bv acc) rfl hob1 _ _ _ rfl (Src.str (bs [42, 45, 49, 13, 10]) Tryd.underlying9) (by rw [hmb]; unfold maxLen; omega) (by rw [hmb]; omega) (by omega) ?_; intro v1 w2 hO2 hgr hat)
  all_goals
    rw [hmb, strCells_bv, bs_data, ← bv_append] at hO2
    go_ret
    exact ⟨_, rfl, OB.mk hO2 rfl, HB1.grown hgr hbs1 (fun k hk => (hob1.lt k hk).1)⟩

set_option maxRecDepth 100000 in
set_option maxHeartbeats 4000000 in
theorem put_null2 (k : Int) (h1 : k ≠ 1) (h2 : k ≠ 2) (h3 : k ≠ 3) (h4 : k ≠ 4) (h6 : k ≠ 6) (h7 : k ≠ 7) (h8 : k ≠ 8) (h9 : k ≠ 9) (s : List UInt8) (n : Int) (l : List Rep) (w : World) (cs : List Value) (B : Nat) (v : Value) (acc : List UInt8) (vn : Int) (hr : RV w (fun b => b < B) (.mk k s n l) cs) (hob : OB w B 5 v acc) (hB : B ≤ w.heap.size) (hvn : (vn == 3) = false) (hlen : acc.length + (enc false (.mk k s n l)).length ≤ 1048576) :
    Calls Tryd.prog 21 #[v, .agg cs.toArray, .int .i64 vn] w fun e w' => ∃ v', e = .returned v' ∧ OB w' B 5 v' (acc ++ enc false (.mk k s n l)) ∧ Below B w w' := by
  obtain ⟨i0, hi, hz0, hz1, hz2⟩ := info_parts u8info
  obtain ⟨A, c, xs, rfl, hk1, hn1, hs1, hlc1, hcm1, hd1, hl1⟩ := hr.fields
  obtain ⟨A2, cc, rfl⟩ := hob.sliceForm
  simp only [Rep.k, Rep.s, Rep.n, Rep.l] at *
  have hel : enc false (.mk k s n l) = [36, 45, 49, 13, 10] := by
    unfold enc
    rw [if_neg h1, if_neg h2, if_neg h3, if_neg h4, if_neg (fun h => h8 h.1), if_neg (fun h => h9 h.1), if_neg (by omega)]
    rw [if_neg (by decide), if_neg h6]
  have e1 : (k == 1) = false := by simpa using h1
  have e2 : (k == 2) = false := by simpa using h2
  have e3 : (k == 3) = false := by simpa using h3
  have e4 : (k == 4) = false := by simpa using h4
  have e6 : (k == 6) = false := by simpa using h6
  have e7 : (k == 7) = false := by simpa using h7
  have e8 : (k == 8) = false := by simpa using h8
  have e9 : (k == 9) = false := by simpa using h9
  clear h1 h2 h3 h4 h6 h7 h8 h9
  rw [hel] at hlen ⊢
  have hmb : (bs [36, 45, 49, 13, 10]).size = 5 := rfl
  have hal : acc.length + 5 ≤ 1048576 := hlen
  have hvm : (vn != 3) = true := by rw [bne, hvn]; rfl
  have HB1 := (Below.refl B w).alloc hB (.cells #[.int .i64 k, sv s, .int .i64 n, .slice A l.length c] 27)
  have hob1 := Own.below hob ((Below.refl w.heap.size w).alloc (Nat.le_refl _) (.cells #[.int .i64 k, sv s, .int .i64 n, .slice A l.length c] 27)) (fun k hk => (hob.lt k hk).2)
  have hbs1 := Nat.le_trans hB HB1.size
  clear hel hlen hr hd1 hl1
  go_enter Tryd.func21, Tryd.ntmps21
  go_wp2_with (at_builtin; refine wpList_append_Own _ rfl (.tmp 93) _ _ _ rfl B 5 i0 _ 1 1 Tryd.underlying23 hi hz0 hz1 hz2 rfl (.slice A2 acc.length cc) acc.length (bv acc) rfl hob1 _ _ _ rfl (Src.str (bs [36, 45, 49, 13, 10]) Tryd.underlying9) (by rw [hmb]; unfold maxLen; omega) (by rw [hmb]; omega) (by omega) ?_; intro v1 w2 hO2 hgr hat)
  all_goals
    rw [hmb, strCells_bv, bs_data, ← bv_append] at hO2
    go_ret
    exact ⟨_, rfl, OB.mk hO2 rfl, HB1.grown hgr hbs1 (fun k hk => (hob1.lt k hk).1)⟩

set_option maxRecDepth 100000 in
set_option maxHeartbeats 4000000 in
theorem put_null3 (k : Int) (h1 : k ≠ 1) (h2 : k ≠ 2) (h3 : k ≠ 3) (h4 : k ≠ 4) (h7 : k ≠ 7) (h8 : k ≠ 8) (h9 : k ≠ 9) (s : List UInt8) (n : Int) (l : List Rep) (w : World) (cs : List Value) (B : Nat) (v : Value) (acc : List UInt8) (vn : Int) (hr : RV w (fun b => b < B) (.mk k s n l) cs) (hob : OB w B 5 v acc) (hB : B ≤ w.heap.size) (hvn : (vn == 3) = true) (hlen : acc.length + (enc true (.mk k s n l)).length ≤ 1048576) :
    Calls Tryd.prog 21 #[v, .agg cs.toArray, .int .i64 vn] w fun e w' => ∃ v', e = .returned v' ∧ OB w' B 5 v' (acc ++ enc true (.mk k s n l)) ∧ Below B w w' := by
  obtain ⟨i0, hi, hz0, hz1, hz2⟩ := info_parts u8info
  obtain ⟨A, c, xs, rfl, hk1, hn1, hs1, hlc1, hcm1, hd1, hl1⟩ := hr.fields
  obtain ⟨A2, cc, rfl⟩ := hob.sliceForm
  simp only [Rep.k, Rep.s, Rep.n, Rep.l] at *
  have hel : enc true (.mk k s n l) = [95, 13, 10] := by
    unfold enc
    rw [if_neg h1, if_neg h2, if_neg h3, if_neg h4, if_neg (fun h => h8 h.1), if_neg (fun h => h9 h.1), if_neg (by omega)]
    rfl
  have e1 : (k == 1) = false := by simpa using h1
  have e2 : (k == 2) = false := by simpa using h2
  have e3 : (k == 3) = false := by simpa using h3
  have e4 : (k == 4) = false := by simpa using h4
  have e7 : (k == 7) = false := by simpa using h7
  have e8 : (k == 8) = false := by simpa using h8
  have e9 : (k == 9) = false := by simpa using h9
  clear h1 h2 h3 h4 h7 h8 h9
  rw [hel] at hlen ⊢
  have hmb : (bs [95, 13, 10]).size = 3 := rfl
  have hal : acc.length + 3 ≤ 1048576 := hlen
  have hvm : (vn != 3) = false := by rw [bne, hvn]; rfl
  have HB1 := (Below.refl B w).alloc hB (.cells #[.int .i64 k, sv s, .int .i64 n, .slice A l.length c] 27)
  have hob1 := Own.below hob ((Below.refl w.heap.size w).alloc (Nat.le_refl _) (.cells #[.int .i64 k, sv s, .int .i64 n, .slice A l.length c] 27)) (fun k hk => (hob.lt k hk).2)
  have hbs1 := Nat.le_trans hB HB1.size
  clear hel hlen hr hd1 hl1
  go_enter Tryd.func21, Tryd.ntmps21
  go_wp2_with (at_builtin; refine wpList_append_Own _ rfl (.tmp 95) _ _ _ rfl B 5 i0 _ 1 1 Tryd.underlying23 hi hz0 hz1 hz2 rfl (.slice A2 acc.length cc) acc.length (bv acc) rfl hob1 _ _ _ rfl (Src.str (bs [95, 13, 10]) Tryd.underlying9) (by rw [hmb]; unfold maxLen; omega) (by rw [hmb]; omega) (by omega) ?_; intro v1 w2 hO2 hgr hat)
  all_goals
    rw [hmb, strCells_bv, bs_data, ← bv_append] at hO2
    go_ret
    exact ⟨_, rfl, OB.mk hO2 rfl, HB1.grown hgr hbs1 (fun k hk => (hob1.lt k hk).1)⟩
end Go.Proofs.YtjdnpgdedbegfaaDoor
