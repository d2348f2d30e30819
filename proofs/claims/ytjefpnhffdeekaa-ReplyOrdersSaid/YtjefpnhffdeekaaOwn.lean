/- Rows of the call's own whose frozen mark may stand behind the last cell (what a conversion of a string to bytes leaves), and append onto them from any source: a slice, a string. -/
import Derived.Test.YtjefpnhffdeekaaWord
import Derived.Lib.AppendStr
import Derived.Laws.IdiomStrings
import Derived.Lib.Hide
import Derived.Laws.Concat
import Derived.WalkKit
namespace Go.Proofs.Ytjefpnhffdeekaa
open Go.RowKit
set_option linter.unusedVariables false

/-- No cell of the first n is frozen. -/
def NF (fz : Nat × Nat) (n : Nat) : Prop := ∀ j, j < n → ¬ (fz.1 ≤ j ∧ j < fz.2)
theorem NF.zero (n : Nat) : NF (0, 0) n := by intro j _ h; simp at h
theorem NF.behind (n : Nat) : NF (n, n + 1) n := by intro j hj h; simp at h; omega

def Own (w : World) (base : Nat) (e : TypeId) (size : Nat) (v : Value) (n : Nat) (xs : List Value) : Prop :=
  xs.length = n * size ∧
  ((v = .slice none 0 0 ∧ n = 0) ∨
   ∃ g cap cur fz, v = .slice (some ⟨g, 0, none⟩) n cap ∧ base ≤ g ∧ w.heap[g]? = some (.cells cur e fz) ∧ NF fz cur.size ∧ n ≤ cap ∧ cap ≤ maxLen ∧ cur.size = cap * size ∧ cur.toList.take (n * size) = xs)

section
variable {w w' : World} {base : Nat} {e : TypeId} {size : Nat} {v : Value} {n : Nat} {xs : List Value}
theorem Own.of_row (h : w.ownsRow base e size v n xs) : Own w base e size v n xs := by
  refine ⟨h.1, ?_⟩
  rcases h.2 with h' | ⟨g, cap, cur, a, b, c, d⟩
  · exact .inl h'
  · exact .inr ⟨g, cap, cur, (0, 0), a, b, c, NF.zero _, d⟩
theorem Own.nil (w : World) (base : Nat) (e : TypeId) (size : Nat) : Own w base e size (.slice none 0 0) 0 [] := ⟨by simp, .inl ⟨rfl, rfl⟩⟩
theorem Own.lit (w : World) (cs : Array Value) (n : Nat) (hb : base ≤ w.heap.size) (hm : n ≤ maxLen) (hs : cs.size = n * size) :
    Own (w.alloc (.cells cs e)) base e size (.slice (some ⟨w.heap.size, 0, none⟩) n n) n cs.toList := Own.of_row (World.ownsRow_lit w cs n hb hm hs)
theorem Own.lt (h : Own w base e size v n xs) : ∀ k, v.ownBlock = some k → base ≤ k ∧ k < w.heap.size := by
  intro k hk
  rcases h.2 with ⟨rfl, _⟩ | ⟨g, cap, cur, fz, rfl, hb, hg, _⟩
  · simp [Value.ownBlock] at hk
  · simp [Value.ownBlock] at hk
    subst hk
    exact ⟨hb, (Array.getElem?_eq_some_iff.1 hg).1⟩
theorem Own.kept {row : Option Nat} (h : Own w base e size v n xs) (hg : w.grownBy w' row) (hne : v.ownBlock = none ∨ v.ownBlock ≠ row) : Own w' base e size v n xs := by
  refine ⟨h.1, ?_⟩
  rcases h.2 with hn | ⟨g, cap, cur, fz, rfl, hb, hgg, rest⟩
  · exact .inl hn
  · refine .inr ⟨g, cap, cur, fz, rfl, hb, ?_, rest⟩
    rw [hg.block g (Array.getElem?_eq_some_iff.1 hgg).1 (by simpa [Value.ownBlock] using hne)]
    exact hgg
theorem Own.heap (h : Own w base e size v n xs) (hh : w'.heap = w.heap) : Own w' base e size v n xs := by
  refine ⟨h.1, ?_⟩
  rw [hh]
  exact h.2
theorem Own.drew (h : Own w base e size v n xs) : Own w.drew base e size v n xs := h
theorem Own.drewN (h : Own w base e size v n xs) (k : Nat) : Own (w.drewN k) base e size v n xs := h
theorem Own.alloc (h : Own w base e size v n xs) (o : Obj) : Own (w.alloc o) base e size v n xs := by
  refine ⟨h.1, ?_⟩
  rcases h.2 with hn | ⟨g, cap, cur, fz, rfl, hb, hgg, rest⟩
  · exact .inl hn
  · exact .inr ⟨g, cap, cur, fz, rfl, hb, (Below.heap_alloc w o g (Array.getElem?_eq_some_iff.1 hgg).1).trans hgg, rest⟩
theorem Own.below {B : Nat} (h : Own w base e size v n xs) (hb : Below B w w') (hlt : ∀ k, v.ownBlock = some k → k < B) : Own w' base e size v n xs := by
  refine ⟨h.1, ?_⟩
  rcases h.2 with hn | ⟨g, cap, cur, fz, rfl, hbb, hgg, rest⟩
  · exact .inl hn
  · exact .inr ⟨g, cap, cur, fz, rfl, hbb, (hb.block g (hlt g (by simp [Value.ownBlock]))).trans hgg, rest⟩
theorem Own.below_ (h : Own w base e size v n xs) (hb : Below w.heap.size w w') : Own w' base e size v n xs := h.below hb (fun k hk => (h.lt k hk).2)
theorem Own.mono {base' : Nat} (h : Own w base e size v n xs) (hb : base' ≤ base) : Own w base' e size v n xs := by
  refine ⟨h.1, ?_⟩
  rcases h.2 with hn | ⟨g, cap, cur, fz, rfl, hbb, rest⟩
  · exact .inl hn
  · exact .inr ⟨g, cap, cur, fz, rfl, by omega, rest⟩
theorem Own.cells (h : Own w base e size v n xs) {g : Nat} (hg : v.ownBlock = some g) : ∀ j u, xs[j]? = some u → w.cell? ((⟨g, 0, none⟩ : Addr).add j) = some u := by
  intro j u hu
  rcases h.2 with ⟨rfl, _⟩ | ⟨g', cap, cur, fz, rfl, _, hgg, _, _, _, _, htake⟩
  · simp [Value.ownBlock] at hg
  · simp [Value.ownBlock] at hg
    subst hg
    have hadd : (⟨g', 0, none⟩ : Addr).add j = ⟨g', j, none⟩ := by unfold Addr.add; split <;> simp_all
    rw [hadd, cell_of_row w g' j cur e fz hgg]
    rw [← htake, List.getElem?_take] at hu
    split at hu
    · simpa using hu
    · cases hu
/-- The value's form: nil and nothing, or a slice at the head of a block. -/
theorem Own.form (h : Own w base e size v n xs) : (v = .slice none 0 0 ∧ n = 0) ∨ ∃ g cap, v = .slice (some ⟨g, 0, none⟩) n cap ∧ base ≤ g ∧ g < w.heap.size ∧ n ≤ cap ∧ cap ≤ maxLen := by
  rcases h.2 with hn | ⟨g, cap, cur, fz, rfl, hb, hg, _, hnc, hcm, _⟩
  · exact .inl hn
  · exact .inr ⟨g, cap, rfl, hb, (Array.getElem?_eq_some_iff.1 hg).1, hnc, hcm⟩
theorem Own.cellAt {g cap : Nat} (h : Own w base e size (.slice (some ⟨g, 0, none⟩) n cap) n xs) (j : Nat) (hj : j < n * size) : w.cell? ⟨g, j, none⟩ = xs[j]? := by
  rcases h.2 with ⟨h', _⟩ | ⟨g', cap', cur, fz, h', _, hg, _, _, _, _, htake⟩
  · simp at h'
  · simp only [Value.slice.injEq, Option.some.injEq, Addr.mk.injEq, and_true, true_and] at h'
    obtain ⟨rfl, rfl⟩ := h'
    rw [cell_of_row w g j cur e fz hg, ← htake, List.getElem?_take, if_pos hj]
    simp
theorem Own.frozenAt {g cap : Nat} (h : Own w base e size (.slice (some ⟨g, 0, none⟩) n cap) n xs) (j : Nat) (hj : j < n * size) : w.frozen? ⟨g, j, none⟩ = false := by
  rcases h.2 with ⟨h', _⟩ | ⟨g', cap', cur, fz, h', _, hg, hnf, hnc, _, hcs, _⟩
  · simp at h'
  · simp only [Value.slice.injEq, Option.some.injEq, Addr.mk.injEq, and_true, true_and] at h'
    obtain ⟨rfl, rfl⟩ := h'
    have hlt : j < cur.size := by rw [hcs]; exact Nat.lt_of_lt_of_le hj (Nat.mul_le_mul_right _ hnc)
    have := hnf j hlt
    obtain ⟨lo, hi⟩ := fz
    simp only [World.frozen?, hg, Bool.and_eq_false_iff, decide_eq_false_iff_not]
    simp only at this
    omega
theorem Own.stored {g cap : Nat} (h : Own w base e size (.slice (some ⟨g, 0, none⟩) n cap) n xs) (j : Nat) (u : Value) :
    Own (w.setCell ⟨g, j, none⟩ u) base e size (.slice (some ⟨g, 0, none⟩) n cap) n (xs.set j u) := by
  rcases h.2 with ⟨h', _⟩ | ⟨g', cap', cur, fz, h', hb, hg, hnf, hnc, hcm, hcs, htake⟩
  · simp at h'
  · simp only [Value.slice.injEq, Option.some.injEq, Addr.mk.injEq, and_true, true_and] at h'
    obtain ⟨rfl, rfl⟩ := h'
    refine ⟨by simpa using h.1, .inr ⟨g, cap, cur.setIfInBounds j u, fz, rfl, hb, ?_, by simpa using hnf, hnc, hcm, by simpa using hcs, ?_⟩⟩
    · have hlt : g < w.heap.size := (Array.getElem?_eq_some_iff.1 hg).1
      simp [World.setCell, Array.getElem?_modify, hg]
    · rw [Array.toList_setIfInBounds, List.take_set, htake]
theorem Own.far {p : Addr} (h : Own w base e size v n xs) (hp : v.ownBlock ≠ some p.block) (u : Value) : Own (w.setCell p u) base e size v n xs := by
  refine ⟨h.1, ?_⟩
  rcases h.2 with hn | ⟨g, cap, cur, fz, rfl, hb, hgg, rest⟩
  · exact .inl hn
  · exact .inr ⟨g, cap, cur, fz, rfl, hb, (Below.heap_setCell w p u g (by simpa [Value.ownBlock] using hp)).trans hgg, rest⟩
theorem Own.own_reads {B c : Nat} {A : Option Addr} (h : Own w base e size (.slice A n c) n xs) (hB : w.heap.size ≤ B) : Reads w B size A n xs := by
  refine ⟨h.1, fun hn => ?_⟩
  rcases h.form with ⟨hv, h0⟩ | ⟨g, cap, hv, _, hlt, _⟩
  · omega
  · have hA : A = some ⟨g, 0, none⟩ := by injection hv
    subst hA
    exact ⟨_, rfl, by simp; omega, h.cells (g := g) rfl⟩
end

/-- What an append or a copy takes from. -/
structure Src (P : Program) (w : World) (u : TypeId) (size : Nat) (x : Value) (m : Nat) (news : List Value) : Prop where
  ty : P.underlying u = some .string ∨ ∃ e', P.underlying u = some (.slice e')
  len : ∀ w1, (Builtin.lenOf x).run P w1 = .ok m w1
  one : ∀ v ∈ news, v.oneCell' = true
  l : news.length = m * size
  first : ∀ w1 : World, w1.heap = w.heap → (Builtin.firstCells size m x).run P w1 = .ok news.toArray w1

section
variable {P : Program} {w : World} {u : TypeId} {size : Nat}
theorem Src.str (s : ByteArray) (hu : P.underlying u = some .string) : Src P w u 1 (.string s) s.size (Lib.strCells s) :=
  ⟨.inl hu, fun w1 => by simp [Builtin.lenOf], Lib.strCells_oneCell s, by rw [Lib.strCells_length]; omega, fun w1 _ => Lib.run_firstCells_string (P := P) w1 1 s⟩
theorem Src.slice {e' : TypeId} {B : Nat} {A : Option Addr} {m c : Nat} {news : List Value} (hu : P.underlying u = some (.slice e')) (h : Reads w B size A m news) (h1 : ∀ v ∈ news, v.oneCell' = true) (hs : 0 < size) :
    Src P w u size (.slice A m c) m news :=
  ⟨.inr ⟨e', hu⟩, fun w1 => by simp [Builtin.lenOf], h1, h.1, fun w1 hw => by
    rcases A with _ | a
    · have hm : m = 0 := by
        rcases Nat.eq_zero_or_pos m with h0 | h0
        · exact h0
        · obtain ⟨ad, hh, _⟩ := h.2 h0
          cases hh
      subst hm
      have hn : news = [] := List.eq_nil_of_length_eq_zero (by simpa using h.1)
      subst hn
      exact run_firstCells_none w1 size 0 0 c
    · refine run_firstCells_some (P := P) w1 size m a m c news h.1 (fun j v hj => ?_)
      have hm : 0 < m := by
        rcases Nat.eq_zero_or_pos m with h0 | h0
        · subst h0
          have hn : news = [] := List.eq_nil_of_length_eq_zero (by simpa using h.1)
          subst hn
          simp at hj
        · exact h0
      obtain ⟨ad, hh, _, hc⟩ := h.2 hm
      injection hh with hh
      subst hh
      have := hc j v hj
      unfold World.cell? at this ⊢
      rw [hw]
      exact this⟩
end

theorem Src.own {P : Program} {w : World} {base : Nat} {e : TypeId} {size : Nat} {v : Value} {n : Nat} {xs : List Value} {u e' : TypeId} (h : Own w base e size v n xs) (hu : P.underlying u = some (.slice e')) (h1 : ∀ v ∈ xs, v.oneCell' = true) (hs : 0 < size) :
    Src P w u size v n xs := by
  rcases h.form with ⟨rfl, rfl⟩ | ⟨g, cap, rfl, _⟩
  · exact Src.slice hu (h.own_reads (Nat.le_refl _)) h1 hs
  · exact Src.slice hu (h.own_reads (Nat.le_refl _)) h1 hs

section
variable {P : Program} (w : World)
theorem run_storeCells_atN (g o : Nat) (t : TypeId) (fz : Nat × Nat) : ∀ (vs : List Value) (i : Nat) (cur : Array Value) (w : World), w.heap[g]? = some (.cells cur t fz) → NF fz cur.size → o + i + vs.length ≤ cur.size → (∀ v ∈ vs, v.oneCell' = true) →
    (storeCells ⟨g, o, none⟩ vs i).run P w = .ok () (w.setRow g (cur.toList.take (o + i) ++ vs ++ cur.toList.drop (o + i + vs.length)).toArray)
  | [], i, cur, w, hg, _, _, _ => by
    simp only [storeCells, List.append_nil, List.length_nil, Nat.add_zero, List.take_append_drop, Array.toArray_toList]
    rw [setRow_self w g cur t fz hg]
    rfl
  | v :: rest, i, cur, w, hg, hfz, hl, h1 => by
    have hi : o + i < cur.size := by simp at hl; omega
    have hadd : (⟨g, o, none⟩ : Addr).add i = ⟨g, o + i, none⟩ := by unfold Addr.add; split <;> simp_all
    have hcell : w.cell? ⟨g, o + i, none⟩ = some cur[o + i] := by simp [World.cell?, hg, hi]
    have hfro : w.frozen? ⟨g, o + i, none⟩ = false := by
      have := hfz (o + i) hi
      obtain ⟨lo, hi'⟩ := fz
      simp only [World.frozen?, hg, Bool.and_eq_false_iff, decide_eq_false_iff_not]
      simp only at this
      omega
    have hst : (store ((⟨g, o, none⟩ : Addr).add i) v).run P w = .ok () (w.setRow g (cur.setIfInBounds (o + i) v)) := by
      rw [hadd, run_store P w _ v _ (h1 v (by simp)), hcell]
      simp [hfro, setCell_eq_setRow w g (o + i) cur t fz v hg]
    have ih := run_storeCells_atN g o t fz rest (i + 1) (cur.setIfInBounds (o + i) v) (w.setRow g (cur.setIfInBounds (o + i) v)) (setRow_heap w g cur _ t _ hg) (by simpa using hfz) (by simp at hl ⊢; omega) (fun x hx => h1 x (by simp [hx]))
    simp only [storeCells, Sem.run_bind, hst, Result.andThen_ok, ih, setRow_setRow]
    congr 3
    have e := list_seg_step cur.toList (o + i) v rest (by simp at hl ⊢; omega)
    simpa [Array.toList_setIfInBounds, Nat.add_assoc] using e

/-- append onto a row of the call's own, nil included, from any source. -/
theorem run_append_Own (base : Nat) (t u ty e : TypeId) (i : TypeInfo) (z : Value) (size bytes : Nat) (ht : P.underlying t = some (.slice e)) (hi : P.info? e = some i) (hz : i.zero = some z)
    (hsize : i.size = size) (hby : i.bytes = bytes) (hzs : z.cells.size = size)
    (v : Value) (n : Nat) (xs : List Value) (hown : Own w base e size v n xs) (x : Value) (m : Nat) (news : List Value) (hs : Src P w u size x m news)
    (h63 : n + m ≤ maxLen) (hbytes : (n + m) * bytes ≤ 140737488355328) (hbase : base ≤ w.heap.size) :
    ∃ v' w', (Builtin.append_ #[t, u] ty #[v, x]).run P w = .ok v' w' ∧ Own w' base e size v' (n + m) (xs ++ news) ∧ w.grownBy w' v.ownBlock ∧ (v'.ownBlock = v.ownBlock ∨ v'.ownBlock = some w.heap.size) := by
  subst hsize
  subst hby
  have hsmall : n + m ≤ 9223372036854775807 := by simp only [maxLen] at h63; omega
  have hlen : (xs ++ news).length = (n + m) * i.size := by rw [List.length_append, hown.1, hs.l, Nat.add_mul]
  have grown : ∀ (old : Nat), old < n + m → ∀ (row : Option Nat),
      Own (w.drew.alloc (.cells (xs.toArray ++ news.toArray ++ Builtin.zeroCells z.cells (grownCap w (n + m) old e - (n + m))) e)) base e i.size
        (.slice (some ⟨w.heap.size, 0, none⟩) (n + m) (grownCap w (n + m) old e)) (n + m) (xs ++ news) ∧
      w.grownBy (w.drew.alloc (.cells (xs.toArray ++ news.toArray ++ Builtin.zeroCells z.cells (grownCap w (n + m) old e - (n + m))) e)) row := by
    intro old ho row
    have hge := grownCap_ge w (n + m) old e
    have hcm : grownCap w (n + m) old e ≤ maxLen := grownCap_le_maxLen w (n + m) old e h63
    refine ⟨⟨hlen, .inr ⟨w.heap.size, _, _, (0, 0), rfl, hbase, heap_alloc_new w.drew _, NF.zero _, hge, hcm, ?_, ?_⟩⟩, ⟨rfl, rfl, rfl, by simp, fun k hk _ => Below.heap_alloc w.drew _ k hk⟩⟩
    · simp only [Array.size_append, List.size_toArray, size_zeroCells, hzs, hown.1, hs.l, ← Nat.add_mul]
      congr 1
      omega
    · simp only [Array.toList_append, List.append_assoc]
      rw [← List.append_assoc, ← hlen]
      exact List.take_left
  have hf := hs.first w rfl
  have hfd := hs.first w.drew rfl
  have hln := hs.len w
  rcases hown.2 with ⟨rfl, rfl⟩ | ⟨g, cap, cur, fz, rfl, hbg, hg, hnf, hnc, hcm, hcs, htake⟩
  · have hx : xs = [] := List.eq_nil_of_length_eq_zero (by simpa using hown.1)
    subst hx
    by_cases hm : m = 0
    · subst hm
      have hn : news = [] := List.eq_nil_of_length_eq_zero (by simpa using hs.l)
      subst hn
      refine ⟨.slice none 0 0, w, ?_, Own.nil w base e i.size, ⟨rfl, rfl, rfl, Nat.le_refl _, fun _ _ _ => rfl⟩, .inl rfl⟩
      rcases hs.ty with hu | ⟨e', hu⟩ <;> simp [Builtin.append_, run_underlying ht, run_underlying hu, sizeOf, typeInfo, hi, hln, hf]
    · have hgr := grown 0 (by omega) (Value.ownBlock (.slice none 0 0))
      simp only [Nat.zero_add, List.nil_append, Array.empty_append] at hgr ⊢
      refine ⟨_, _, ?_, hgr.1, hgr.2, .inr rfl⟩
      have hn0 : ¬ (m ≤ 0) := by omega
      have h63' : ¬ (9223372036854775807 < (m : Int)) := by omega
      have h48' : ¬ (281474976710656 < Builtin.nextslicecap m 0 * i.bytes) := by
        rw [nextslicecap_zero (by omega)]; simp only [Nat.zero_add] at hbytes; omega
      rcases hs.ty with hu | ⟨e', hu⟩ <;>
        simp [Builtin.append_, run_underlying ht, run_underlying hu, sizeOf, typeInfo, zeroValue, hi, hz, hln, hm, h63', h48', Question.forced, run_firstCells_none, hfd, newRow, grownCap]
  · by_cases hroom : n + m ≤ cap
    · have hfit : n * i.size + news.length ≤ cur.size := by rw [hs.l, hcs, ← Nat.add_mul]; exact Nat.mul_le_mul_right _ hroom
      have hst := run_storeCells_atN (P := P) g (n * i.size) e fz news 0 cur w hg hnf (by simpa using hfit) hs.one
      simp only [Nat.add_zero] at hst
      refine ⟨.slice (some ⟨g, 0, none⟩) (n + m) cap, w.setRow g (cur.toList.take (n * i.size) ++ news ++ cur.toList.drop (n * i.size + news.length)).toArray, ?_, ⟨hlen, .inr ⟨g, cap, _, fz, rfl, hbg, setRow_heap w g cur _ e _ hg, ?_, hroom, hcm, ?_, ?_⟩⟩, ⟨rfl, rfl, rfl, by simp, fun k _ hk => setRow_other w g k _ (fun e => hk (by simp [Value.ownBlock, e]))⟩, .inl rfl⟩
      · rcases hs.ty with hu | ⟨e', hu⟩ <;> simp [Builtin.append_, run_underlying ht, run_underlying hu, sizeOf, typeInfo, hi, hln, hroom, hf, Addr.add_lit, hst]
      · have hsz : (cur.toList.take (n * i.size) ++ news ++ cur.toList.drop (n * i.size + news.length)).toArray.size = cur.size := by
          simp only [List.size_toArray, List.length_append, List.length_take, List.length_drop, Array.length_toList]
          omega
        rw [hsz]; exact hnf
      · simp only [List.size_toArray, List.length_append, List.length_take, List.length_drop, Array.length_toList]
        omega
      · rw [htake, ← hlen]
        exact List.take_left
    · have holds : ∀ j u, xs[j]? = some u → w.drew.cell? ((⟨g, 0, none⟩ : Addr).add j) = some u := hown.cells (g := g) rfl
      have hfo := run_firstCells_some (P := P) w.drew i.size n ⟨g, 0, none⟩ n cap xs hown.1 holds
      have hgr := grown cap (by omega) (Value.ownBlock (.slice (some ⟨g, 0, none⟩) n cap))
      refine ⟨_, _, ?_, hgr.1, hgr.2, .inr rfl⟩
      have h63' : ¬ (9223372036854775807 < ((n : Int) + (m : Int))) := by omega
      have h48' : ¬ (281474976710656 < Builtin.nextslicecap (n + m) cap * i.bytes) := by have := growslice_fits (old := cap) (need := n + m) (bytes := i.bytes) (by omega) hbytes; omega
      rcases hs.ty with hu | ⟨e', hu⟩ <;>
        (simp [Builtin.append_, run_underlying ht, run_underlying hu, sizeOf, typeInfo, zeroValue, hi, hz, hln, hroom, h63', h48', Question.forced, hfo, hfd, newRow, grownCap]
         try (congr 2; apply Array.ext'; simp [List.append_assoc]))

theorem wpList_append_Own {ops : Array Oper} {rest : List Oper} {o : Oper} {a : Act} {Q : Exit → Act → World → Prop} (hgd : o.guard = none) (s x : Operand) (t u : TypeId)
    (ho : o.op = .call { callee := .builtin .append, args := #[s, x], argTypes := #[t, u] })
    (base : Nat) (e : TypeId) (i : TypeInfo) (z : Value) (size bytes : Nat) (ht : P.underlying t = some (.slice e)) (hi : P.info? e = some i) (hz : i.zero = some z)
    (hsize : i.size = size) (hby : i.bytes = bytes) (hzs : z.cells.size = size)
    (v : Value) (n : Nat) (xs : List Value) (hv : a.eval s = v) (hown : Own w base e size v n xs) (xv : Value) (m : Nat) (news : List Value) (hx : a.eval x = xv) (hs : Src P w u size xv m news)
    (h63 : n + m ≤ maxLen) (hbytes : (n + m) * bytes ≤ 140737488355328) (hbase : base ≤ w.heap.size)
    (h : ∀ v' w', Own w' base e size v' (n + m) (xs ++ news) → w.grownBy w' v.ownBlock → (v'.ownBlock = v.ownBlock ∨ v'.ownBlock = some w.heap.size) → wpList P ops Q rest (a.put o.dst v') w') : wpList P ops Q (o :: rest) a w := by
  refine wpList_plain hgd fun K hK => ?_
  obtain ⟨v', w', hr, h2, h3, h4⟩ := run_append_Own (P := P) w base t u o.type e i z size bytes ht hi hz hsize hby hzs v n xs hown xv m news hs h63 hbytes hbase
  unfold Oper.wp execOp
  simp only [ho, resolve, invoke, builtin, Sem.run_bind, Sem.run_pure, Result.andThen_ok, List.map_toArray, List.map_cons, List.map_nil, hv, hx, hr]
  exact hK _ _ (h v' w' h2 h3 h4)

theorem step_append_Own {ops : Array Oper} {o : Oper} {a : Act} {K : Act → World → Prop} {Q : Exit → Act → World → Prop} {E : Prop} (hgd : o.guard = none) (s x : Operand) (t u : TypeId)
    (ho : o.op = .call { callee := .builtin .append, args := #[s, x], argTypes := #[t, u] })
    (base : Nat) (e : TypeId) (i : TypeInfo) (z : Value) (size bytes : Nat) (ht : P.underlying t = some (.slice e)) (hi : P.info? e = some i) (hz : i.zero = some z)
    (hsize : i.size = size) (hby : i.bytes = bytes) (hzs : z.cells.size = size)
    (v : Value) (n : Nat) (xs : List Value) (hv : a.eval s = v) (hown : Own w base e size v n xs) (xv : Value) (m : Nat) (news : List Value) (hx : a.eval x = xv) (hs : Src P w u size xv m news)
    (h63 : n + m ≤ maxLen) (hbytes : (n + m) * bytes ≤ 140737488355328) (hbase : base ≤ w.heap.size)
    (h : ∀ v' w', Own w' base e size v' (n + m) (xs ++ news) → w.grownBy w' v.ownBlock → (v'.ownBlock = v.ownBlock ∨ v'.ownBlock = some w.heap.size) → K (a.put o.dst v') w') :
    if Region.wanted o (yielded ops a.tmps) = true then Oper.wp P o a w K Q else E := by
  have hw : Region.wanted o (yielded ops a.tmps) = true := by simp [Region.wanted, hgd]
  rw [if_pos hw]
  obtain ⟨v', w', hr, h2, h3, h4⟩ := run_append_Own (P := P) w base t u o.type e i z size bytes ht hi hz hsize hby hzs v n xs hown xv m news hs h63 hbytes hbase
  unfold Oper.wp execOp
  simp only [ho, resolve, invoke, builtin, Sem.run_bind, Sem.run_pure, Result.andThen_ok, List.map_toArray, List.map_cons, List.map_nil, hv, hx, hr]
  exact h v' w' h2 h3 h4

/-- copy into a row of the call's own, at a place, from any source. -/
theorem run_copy_Own (base : Nat) (t u ty e : TypeId) (ht : P.underlying t = some (.slice e)) (hs1 : (P.info? e).map (·.size) = some 1)
    (g cap n : Nat) (xs : List Value) (hown : Own w base e 1 (.slice (some ⟨g, 0, none⟩) n cap) n xs) (off dLen dCap : Nat) (x : Value) (m : Nat) (news : List Value) (hs : Src P w u 1 x m news)
    (hle : m ≤ dLen) (hfit : off + m ≤ n) :
    ∃ w', (Builtin.copy_ #[t, u] ty #[.slice (some ⟨g, off, none⟩) dLen dCap, x]).run P w = .ok (goInt m) w' ∧ Own w' base e 1 (.slice (some ⟨g, 0, none⟩) n cap) n (xs.take off ++ news ++ xs.drop (off + m)) ∧ w.grownBy w' (some g) := by
  rcases hown.2 with ⟨h', _⟩ | ⟨g', cap', cur, fz, h', hb, hg, hnf, hnc, hcm, hcs, htake⟩
  · simp at h'
  simp only [Value.slice.injEq, Option.some.injEq, Addr.mk.injEq, and_true, true_and] at h'
  obtain ⟨rfl, rfl⟩ := h'
  have hl : news.length = m := by simpa using hs.l
  have hxl : xs.length = n := by simpa using hown.1
  have hst := run_storeCells_atN (P := P) g off e fz news 0 cur w hg hnf (by simp only [Nat.mul_one] at hcs; omega) hs.one
  simp only [Nat.add_zero, hl] at hst
  refine ⟨w.setRow g (cur.toList.take off ++ news ++ cur.toList.drop (off + m)).toArray, ?_, ⟨?_, .inr ⟨g, cap, (cur.toList.take off ++ news ++ cur.toList.drop (off + m)).toArray, fz, rfl, hb, setRow_heap w g cur _ e _ hg, ?_, hnc, hcm, ?_, ?_⟩⟩, ⟨rfl, rfl, rfl, by simp, fun k _ hk => setRow_other w g k _ (fun e => hk (by simp [e]))⟩⟩
  · cases hq : P.info? e with
    | none => simp [hq] at hs1
    | some i =>
      have hi : i.size = 1 := by simpa [hq] using hs1
      have hmin : Nat.min m dLen = m := Nat.min_eq_left hle
      simp [Builtin.copy_, run_underlying ht, hs.len w, sizeOf, typeInfo, hq, hi, hmin, hs.first w rfl, hst]
  · simp only [List.length_append, List.length_take, List.length_drop, hxl, hl]; omega
  · have hsz : (cur.toList.take off ++ news ++ cur.toList.drop (off + m)).toArray.size = cur.size := by
      simp only [List.size_toArray, List.length_append, List.length_take, List.length_drop, Array.length_toList, hl]
      omega
    rw [hsz]; exact hnf
  · simp only [List.size_toArray, List.length_append, List.length_take, List.length_drop, Array.length_toList, hl]
    omega
  · simp only [Nat.mul_one] at htake hcs ⊢
    have ht1 : cur.toList.take off = xs.take off := by rw [← htake, List.take_take, Nat.min_eq_left (by omega)]
    have ht2 : (cur.toList.drop (off + m)).take (n - (off + m)) = xs.drop (off + m) := by rw [← htake, List.drop_take]
    rw [List.append_assoc, List.append_assoc, ht1]
    have hx1 : (xs.take off).length = off := by rw [List.length_take]; omega
    generalize xs.take off = X at hx1 ⊢
    rw [List.take_append, List.take_of_length_le (l := X) (by omega), hx1, List.take_append, List.take_of_length_le (l := news) (by omega), hl]
    rw [show n - off - m = n - (off + m) from by omega, ht2]
end

/-! ### Bytes -/
/-- A row of bytes as cells. -/
def bv (l : List UInt8) : List Value := l.map fun c => Value.int .u8 c.toNat
theorem bv_length (l : List UInt8) : (bv l).length = l.length := by simp [bv]
theorem bv_append (a b : List UInt8) : bv (a ++ b) = bv a ++ bv b := by simp [bv]
theorem bv_one (l : List UInt8) : ∀ u ∈ bv l, u.oneCell' = true := by
  intro u hu
  simp only [bv, List.mem_map] at hu
  obtain ⟨b, _, rfl⟩ := hu
  rfl
theorem bv_get (l : List UInt8) (j : Nat) (h : j < l.length) : (bv l)[j]? = some (.int .u8 l[j].toNat) := by simp [bv, h]
theorem strCells_bv (s : ByteArray) : Lib.strCells s = bv s.data.toList := rfl

/-- A string of bytes. -/
def bs (l : List UInt8) : ByteArray := ⟨l.toArray⟩
@[go_sem, simp] theorem bs_size (l : List UInt8) : (bs l).size = l.length := by simp [bs, ByteArray.size]
@[go_sem, simp] theorem bs_data (l : List UInt8) : (bs l).data.toList = l := by simp [bs]
@[go_sem, simp] theorem bs_toList (l : List UInt8) : (bs l).toList = l := by rw [ByteArray.toList_eq, bs_data]
theorem bs_eta (s : ByteArray) : bs s.data.toList = s := by cases s; simp [bs]
theorem bs_append (a b : List UInt8) : bs a ++ bs b = bs (a ++ b) := ByteArray.mk_append_mk a b
theorem bs_inj {a b : List UInt8} (h : bs a = bs b) : a = b := by have := congrArg (fun s => s.data.toList) h; simpa using this
theorem bs_lit (l : List UInt8) : (⟨l.toArray⟩ : ByteArray) = bs l := rfl
theorem bs_extract (s : ByteArray) (a b : Nat) : s.extract a b = bs ((s.data.toList.drop a).take (b - a)) := by
  apply ByteArray.ext
  apply Array.ext'
  rw [ByteArray.data_extract, Array.toList_extract, List.extract_eq_take_drop]
  simp [bs]
theorem bs_len (s : ByteArray) : s.data.toList.length = s.size := by rw [Array.length_toList]; rfl
abbrev sv (l : List UInt8) : Value := .string (bs l)

/-- A byte slice of the call's own. -/
def OB (w : World) (base : Nat) (e : TypeId) (v : Value) (l : List UInt8) : Prop := Own w base e 1 v l.length (bv l)

theorem OB.mk {w : World} {base : Nat} {e : TypeId} {v : Value} {n : Nat} {xs : List Value} {l : List UInt8} (h : Own w base e 1 v n xs) (hx : xs = bv l) : OB w base e v l := by
  have hn : n = l.length := by have := h.1; rw [hx, bv_length] at this; omega
  unfold OB
  rw [← hn, ← hx]
  exact h
theorem OB.nil (w : World) (base : Nat) (e : TypeId) : OB w base e (.slice none 0 0) [] := Own.nil w base e 1

section
variable {P : Program} {w : World}
theorem OB.of_convert (s : ByteArray) (e base : Nat) (hb : base ≤ w.heap.size) (hs : s.size ≤ maxLen) :
    OB (w.drew.alloc (.cells (bytesRow s (grownCap w s.size 0 e)) e ((bytesRow s (grownCap w s.size 0 e)).size, (bytesRow s (grownCap w s.size 0 e)).size + 1))) base e
      (.slice (some ⟨w.heap.size, 0, none⟩) s.size (grownCap w s.size 0 e)) s.data.toList := by
  have hsz : s.data.toList.length = s.size := by rw [Array.length_toList]; rfl
  have hge := grownCap_ge w s.size 0 e
  have hcm : grownCap w s.size 0 e ≤ maxLen := grownCap_le_maxLen w s.size 0 e hs
  have hbs : (bytesRow s (grownCap w s.size 0 e)).size = grownCap w s.size 0 e := by
    have : s.data.size = s.size := rfl
    simp [bytesRow]; omega
  refine ⟨by simp [bv], .inr ⟨w.heap.size, grownCap w s.size 0 e, _, _, by rw [hsz], hb, heap_alloc_new w.drew _, NF.behind _, by rw [hsz]; exact hge, hcm, by rw [hbs]; omega, ?_⟩⟩
  simp only [bytesRow, Array.toList_append, Array.toList_map, Nat.mul_one]
  rw [List.take_append_of_le_length (by simp)]
  rw [List.take_of_length_le (by simp)]
  rfl
theorem OB.string {base : Nat} {e src dst : TypeId} {v : Value} {l : List UInt8} (h : OB w base e v l) (hs : P.underlying src = some (.slice e)) (he : P.underlying e = some (.int .u8)) (hd : P.underlying dst = some .string) :
    (convert src dst v).run P w = .ok (.string (bs l)) w := by
  rcases h.form with ⟨rfl, h0⟩ | ⟨g, cap, rfl, _⟩
  · have : l = [] := List.eq_nil_of_length_eq_zero h0
    subst this
    rw [run_convert_bytes_string w src dst e none 0 0 hs he hd]
    simp [Conv.bytesToString]
    rfl
  · exact run_convert_bytes_back w src dst e ⟨g, 0, none⟩ cap l hs he hd (fun j hj => by
      exact h.cells (g := g) rfl j _ (by rw [bv_get l j hj]))
end
end Go.Proofs.Ytjefpnhffdeekaa
