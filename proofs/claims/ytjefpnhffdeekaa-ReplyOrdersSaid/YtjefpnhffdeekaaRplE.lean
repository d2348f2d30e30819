/- Insertion, step by step: the plain invariants; two neighbours of a row of replies changed about in memory. -/
import Derived.Test.YtjefpnhffdeekaaRplC
namespace Go.Proofs.Ytjefpnhffdeekaa
open Go.RowKit
set_option linter.unusedVariables false

section
variable {α : Type} {lt : α → α → Bool} {acc X : List α}
/-- The first i sorted. -/
def Ins (lt : α → α → Bool) (acc X : List α) (i : Nat) : Prop := X = (isr lt (acc.take i)).reverse ++ acc.drop i
/-- The i-th on its way down: it stands at j. -/
def Sink (lt : α → α → Bool) (acc X : List α) (i j : Nat) : Prop :=
  ∃ T x D, X = T ++ x :: (D ++ acc.drop (i + 1)) ∧ (isr lt (acc.take i)).reverse = T ++ D ∧ T.length = j ∧ (∀ y ∈ D, lt x y = true) ∧ acc[i]? = some x
theorem Ins.start : Ins lt acc acc 1 := by
  unfold Ins
  cases acc with
  | nil => rfl
  | cons a t => simp [isr, insR]
theorem Ins.len {i : Nat} (h : Ins lt acc X i) : X.length = acc.length := by
  unfold Ins at h; rw [h, List.length_append, List.length_reverse, isr_len, List.length_take, List.length_drop]; omega
theorem Ins.sink {i : Nat} (h : Ins lt acc X i) (hi : i < acc.length) : Sink lt acc X i i := by
  unfold Ins at h
  refine ⟨(isr lt (acc.take i)).reverse, acc[i], [], ?_, by simp, ?_, by simp, List.getElem?_eq_getElem hi⟩
  · rw [h, List.drop_eq_getElem_cons hi]; rfl
  · rw [List.length_reverse, isr_len, List.length_take]; omega
theorem Ins.end_ {i : Nat} (h : Ins lt acc X i) (hi : acc.length ≤ i) : X = isort lt acc := by
  unfold Ins at h
  rw [h, List.take_of_length_le hi, List.drop_eq_nil_of_le hi, List.append_nil]; rfl
theorem Sink.len {i j : Nat} (h : Sink lt acc X i j) : X.length = acc.length := by
  obtain ⟨T, x, D, h1, h2, h3, h4, h5⟩ := h
  have hi := (List.getElem?_eq_some_iff.1 h5).1
  have := congrArg List.length h2
  rw [List.length_reverse, isr_len, List.length_take, List.length_append] at this
  rw [h1, List.length_append, List.length_cons, List.length_append, List.length_drop]; omega
theorem Sink.lt_ {i j : Nat} (h : Sink lt acc X i j) : i < acc.length ∧ j ≤ i := by
  obtain ⟨T, x, D, h1, h2, h3, h4, h5⟩ := h
  have hi := (List.getElem?_eq_some_iff.1 h5).1
  have := congrArg List.length h2
  rw [List.length_reverse, isr_len, List.length_take, List.length_append] at this
  omega
theorem Sink.out {i : Nat} (T : List α) (x : α) (D : List α) (h1 : X = T ++ x :: (D ++ acc.drop (i + 1))) (h2 : (isr lt (acc.take i)).reverse = T ++ D) (h4 : ∀ y ∈ D, lt x y = true) (h5 : acc[i]? = some x)
    (ht : ∀ y r, T.reverse = y :: r → lt x y = false) : Ins lt acc X (i + 1) := by
  obtain ⟨hi, hx⟩ := List.getElem?_eq_some_iff.1 h5
  unfold Ins
  have e : isr lt (acc.take i) = D.reverse ++ T.reverse := by rw [← List.reverse_append, ← h2, List.reverse_reverse]
  rw [List.take_succ_eq_append_getElem hi, hx, isr_next, e, insR_at lt x T.reverse ht D.reverse (fun y hy => h4 y (by simpa using hy)), h1]
  simp
theorem Sink.zero {i : Nat} (h : Sink lt acc X i 0) : Ins lt acc X (i + 1) := by
  obtain ⟨T, x, D, h1, h2, h3, h4, h5⟩ := h
  have : T = [] := List.eq_nil_of_length_eq_zero h3
  subst this
  exact Sink.out [] x D h1 h2 h4 h5 (by simp)
/-- One step: its neighbour below is passed, or it stays. -/
theorem Sink.step {i j : Nat} (h : Sink lt acc X i (j + 1)) : ∃ P y x Q, X = P ++ y :: x :: Q ∧ P.length = j ∧ (lt x y = true → Sink lt acc (P ++ x :: y :: Q) i j) ∧ (lt x y = false → Ins lt acc X (i + 1)) := by
  obtain ⟨T, x, D, h1, h2, h3, h4, h5⟩ := h
  obtain ⟨P, y, rfl⟩ : ∃ P y, T = P ++ [y] := by
    have hne : T ≠ [] := by intro e; rw [e] at h3; simp at h3
    exact ⟨T.dropLast, T.getLast hne, (List.dropLast_concat_getLast hne).symm⟩
  refine ⟨P, y, x, D ++ acc.drop (i + 1), by rw [h1]; simp, by simpa using h3, fun hl => ?_, fun hl => ?_⟩
  · exact ⟨P, x, y :: D, by simp, by rw [h2]; simp, by simpa using h3, fun z hz => (List.mem_cons.1 hz).elim (fun e => e ▸ hl) (fun hz => h4 z hz), h5⟩
  · refine Sink.out (P ++ [y]) x D h1 h2 h4 h5 (fun z r hz => ?_)
    rw [List.reverse_append] at hz
    simp at hz
    rw [← hz.1]; exact hl
end

/-! ### two neighbours changed about -/
theorem set4 (P Q : List Value) (a b c d a' b' c' d' : Value) (i : Nat) (hi : P.length = i) :
    ((((P ++ a :: b :: c :: d :: Q).set i a').set (i + 1) b').set (i + 2) c').set (i + 3) d' = P ++ a' :: b' :: c' :: d' :: Q := by
  subst hi
  rw [List.set_append_right _ _ (Nat.le_refl _), List.set_append_right _ _ (by omega), List.set_append_right _ _ (by omega), List.set_append_right _ _ (by omega)]
  simp [show P.length + 1 - P.length = 1 by omega, show P.length + 2 - P.length = 2 by omega, show P.length + 3 - P.length = 3 by omega]
/-- Four cells of a row stored. -/
def putAt (w : World) (g o : Nat) (a b c d : Value) : World := (((w.setCell ⟨g, o, none⟩ a).setCell ⟨g, o + 1, none⟩ b).setCell ⟨g, o + 2, none⟩ c).setCell ⟨g, o + 3, none⟩ d
theorem Own.put {w : World} {B e n g cap : Nat} {P Q : List Value} {a b c d : Value} (h : Own w B e 4 (.slice (some ⟨g, 0, none⟩) n cap) n (P ++ a :: b :: c :: d :: Q)) {o : Nat} (ho : P.length = o) (a' b' c' d' : Value) :
    Own (putAt w g o a' b' c' d') B e 4 (.slice (some ⟨g, 0, none⟩) n cap) n (P ++ a' :: b' :: c' :: d' :: Q) := by
  have := (((h.stored o a').stored (o + 1) b').stored (o + 2) c').stored (o + 3) d'
  rwa [set4 P Q a b c d a' b' c' d' o ho] at this
theorem putAt_size (w : World) (g o : Nat) (a b c d : Value) : (putAt w g o a b c d).heap.size = w.heap.size := by simp [putAt]
theorem putAt_cell (w : World) (g o : Nat) (a b c d : Value) {p : Addr} (h : p.block ≠ g) : (putAt w g o a b c d).cell? p = w.cell? p := by
  unfold putAt
  rw [World.cell?_setCell_far _ _ _ _ (fun e => h e.symm), World.cell?_setCell_far _ _ _ _ (fun e => h e.symm), World.cell?_setCell_far _ _ _ _ (fun e => h e.symm), World.cell?_setCell_far _ _ _ _ (fun e => h e.symm)]
theorem grown_set {w w' : World} {g : Nat} (h : w.grownBy w' (some g)) (i : Nat) (u : Value) : w.grownBy (w'.setCell ⟨g, i, none⟩ u) (some g) :=
  ⟨h.os, h.tape, h.output, by rw [World.size_setCell]; exact h.size, fun k hk hne => (Below.heap_setCell w' _ u k (fun e => hne (by rw [e]))).trans (h.block k hk hne)⟩
theorem grown_below {w w1 w2 : World} {row : Option Nat} (h : w.grownBy w1 row) (hb : Below w1.heap.size w1 w2) : w.grownBy w2 row :=
  ⟨hb.os.trans h.os, hb.tape.trans h.tape, hb.output.trans h.output, Nat.le_trans h.size hb.size, fun k hk hne => (hb.block k (Nat.lt_of_lt_of_le hk h.size)).trans (h.block k hk hne)⟩
theorem putAt_grown {w w' : World} {g : Nat} (h : w.grownBy w' (some g)) (o : Nat) (a b c d : Value) : w.grownBy (putAt w' g o a b c d) (some g) := by
  unfold putAt
  exact grown_set (grown_set (grown_set (grown_set h _ _) _ _) _ _) _ _
theorem OR.split {w : World} {B n g cap : Nat} {P Q : List Rep} {y x : Rep} (hn : (P ++ y :: x :: Q).length = n) (h : OR w B (.slice (some ⟨g, 0, none⟩) n cap) (P ++ y :: x :: Q)) :
    ∃ E1 f1 E2 f2 xp xq, Own w B 25 4 (.slice (some ⟨g, 0, none⟩) n cap) n (xp ++ .int .i64 y.k :: sv y.s :: .int .i64 y.n :: .slice E1 y.l.length f1 :: .int .i64 x.k :: sv x.s :: .int .i64 x.n :: .slice E2 x.l.length f2 :: xq) ∧ xp.length = P.length * 4 ∧
      RLs w (fun b => B ≤ b ∧ b < w.heap.size ∧ b ≠ g) P xp ∧ RV w (fun b => B ≤ b ∧ b < w.heap.size ∧ b ≠ g) y [.int .i64 y.k, sv y.s, .int .i64 y.n, .slice E1 y.l.length f1] ∧
      RV w (fun b => B ≤ b ∧ b < w.heap.size ∧ b ≠ g) x [.int .i64 x.k, sv x.s, .int .i64 x.n, .slice E2 x.l.length f2] ∧ RLs w (fun b => B ≤ b ∧ b < w.heap.size ∧ b ≠ g) Q xq := by
  subst hn
  obtain ⟨xs, h1, h2⟩ := h
  have h2 : RLs w (fun b => B ≤ b ∧ b < w.heap.size ∧ b ≠ g) (P ++ y :: x :: Q) xs := RLs.mono (fun b hb => ⟨hb.1, hb.2.1, fun e => hb.2.2 (by rw [e]; rfl)⟩) h2
  have h3 := RLs.take P.length h2
  have h4 := RLs.drop P.length h2
  rw [List.take_left] at h3
  rw [List.drop_left] at h4
  unfold RLs at h4
  obtain ⟨cy, xt, e1, hy, h5⟩ := h4
  unfold RLs at h5
  obtain ⟨cx, xq, e2, hx, h6⟩ := h5
  obtain ⟨E1, f1, ys1, rfl, _⟩ := hy.fields
  obtain ⟨E2, f2, ys2, rfl, _⟩ := hx.fields
  have e : xs = xs.take (P.length * 4) ++ (.int .i64 y.k :: sv y.s :: .int .i64 y.n :: .slice E1 y.l.length f1 :: .int .i64 x.k :: sv x.s :: .int .i64 x.n :: .slice E2 x.l.length f2 :: xq) := by
    conv => lhs; rw [← List.take_append_drop (P.length * 4) xs, e1, e2]
    rfl
  refine ⟨E1, f1, E2, f2, xs.take (P.length * 4), xq, by rw [← e]; exact h1, ?_, h3, hy, hx, h6⟩
  exact RLs.len h3
theorem OR.join {w : World} {B n g cap : Nat} {P Q : List Rep} {y x : Rep} {xp xq cy cx : List Value} (hn : (P ++ y :: x :: Q).length = n)
    (h1 : Own w B 25 4 (.slice (some ⟨g, 0, none⟩) n cap) n (xp ++ (cy ++ (cx ++ xq))))
    (hp : RLs w (fun b => B ≤ b ∧ b < w.heap.size ∧ b ≠ g) P xp) (hy : RV w (fun b => B ≤ b ∧ b < w.heap.size ∧ b ≠ g) y cy) (hx : RV w (fun b => B ≤ b ∧ b < w.heap.size ∧ b ≠ g) x cx) (hq : RLs w (fun b => B ≤ b ∧ b < w.heap.size ∧ b ≠ g) Q xq) :
    OR w B (.slice (some ⟨g, 0, none⟩) n cap) (P ++ y :: x :: Q) := by
  subst hn
  refine ⟨_, h1, RLs.mono (fun b hb => ⟨hb.1, hb.2.1, fun e => hb.2.2 (by simpa [Value.ownBlock] using e)⟩) (RLs.append hp ?_)⟩
  unfold RLs
  exact ⟨cy, cx ++ xq, rfl, hy, by unfold RLs; exact ⟨cx, xq, rfl, hx, hq⟩⟩
theorem OR.swapped {wr w3 : World} {B n g cap : Nat} {P Q : List Rep} {y x : Rep} {E1 E2 : Option Addr} {f1 f2 o : Nat} {xp xq : List Value} (hn : (P ++ y :: x :: Q).length = n) (hb : Below wr.heap.size wr w3)
    (h1 : Own wr B 25 4 (.slice (some ⟨g, 0, none⟩) n cap) n (xp ++ .int .i64 y.k :: sv y.s :: .int .i64 y.n :: .slice E1 y.l.length f1 :: .int .i64 x.k :: sv x.s :: .int .i64 x.n :: .slice E2 x.l.length f2 :: xq)) (ho : xp.length = o)
    (hp : RLs wr (fun b => B ≤ b ∧ b < wr.heap.size ∧ b ≠ g) P xp) (hy : RV wr (fun b => B ≤ b ∧ b < wr.heap.size ∧ b ≠ g) y [.int .i64 y.k, sv y.s, .int .i64 y.n, .slice E1 y.l.length f1])
    (hx : RV wr (fun b => B ≤ b ∧ b < wr.heap.size ∧ b ≠ g) x [.int .i64 x.k, sv x.s, .int .i64 x.n, .slice E2 x.l.length f2]) (hq : RLs wr (fun b => B ≤ b ∧ b < wr.heap.size ∧ b ≠ g) Q xq) :
    OR (putAt (putAt w3 g (o + 4) (.int .i64 y.k) (sv y.s) (.int .i64 y.n) (.slice E1 y.l.length f1)) g o (.int .i64 x.k) (sv x.s) (.int .i64 x.n) (.slice E2 x.l.length f2)) B (.slice (some ⟨g, 0, none⟩) n cap) (P ++ x :: y :: Q) := by
  have h3 := h1.below_ hb
  have h4 := Own.put (P := xp ++ [.int .i64 y.k, sv y.s, .int .i64 y.n, .slice E1 y.l.length f1]) (Q := xq) (a := .int .i64 x.k) (b := sv x.s) (c := .int .i64 x.n) (d := .slice E2 x.l.length f2) (by simpa using h3) (o := o + 4) (by simp [ho]) (.int .i64 y.k) (sv y.s) (.int .i64 y.n) (.slice E1 y.l.length f1)
  have h5 := Own.put (P := xp) (Q := .int .i64 y.k :: sv y.s :: .int .i64 y.n :: .slice E1 y.l.length f1 :: xq) (a := .int .i64 y.k) (b := sv y.s) (c := .int .i64 y.n) (d := .slice E1 y.l.length f1) (by simpa using h4) ho (.int .i64 x.k) (sv x.s) (.int .i64 x.n) (.slice E2 x.l.length f2)
  have hk : ∀ p : Addr, (B ≤ p.block ∧ p.block < wr.heap.size ∧ p.block ≠ g) → (putAt (putAt w3 g (o + 4) (.int .i64 y.k) (sv y.s) (.int .i64 y.n) (.slice E1 y.l.length f1)) g o (.int .i64 x.k) (sv x.s) (.int .i64 x.n) (.slice E2 x.l.length f2)).cell? p = wr.cell? p := fun p hp => by
    rw [putAt_cell _ _ _ _ _ _ _ hp.2.2, putAt_cell _ _ _ _ _ _ _ hp.2.2]; exact hb.cell hp.2.1
  have hm : ∀ b, (B ≤ b ∧ b < wr.heap.size ∧ b ≠ g) → (B ≤ b ∧ b < (putAt (putAt w3 g (o + 4) (.int .i64 y.k) (sv y.s) (.int .i64 y.n) (.slice E1 y.l.length f1)) g o (.int .i64 x.k) (sv x.s) (.int .i64 x.n) (.slice E2 x.l.length f2)).heap.size ∧ b ≠ g) := fun b hb' => by
    rw [putAt_size, putAt_size]; exact ⟨hb'.1, Nat.lt_of_lt_of_le hb'.2.1 hb.size, hb'.2.2⟩
  exact OR.join (by rw [← hn]; simp) h5 ((hp.keep hk).mono hm) ((hx.keep hk).mono hm) ((hy.keep hk).mono hm) ((hq.keep hk).mono hm)
/-- Stores, one behind the other. -/
def puts (w : World) : List (Addr × Value) → World
  | [] => w
  | (p, v) :: t => puts (w.setCell p v) t
theorem puts_cell : ∀ (l : List (Addr × Value)) (w : World) (q : Addr), (∀ x ∈ l, x.1 ≠ q) → (puts w l).cell? q = w.cell? q
  | [], _, _, _ => rfl
  | (p, v) :: t, w, q, h => by
    unfold puts
    rw [puts_cell t _ q (fun x hx => h x (by simp [hx]))]
    exact World.cell?_setCell_other _ _ _ _ (h (p, v) (by simp))
end Go.Proofs.Ytjefpnhffdeekaa
