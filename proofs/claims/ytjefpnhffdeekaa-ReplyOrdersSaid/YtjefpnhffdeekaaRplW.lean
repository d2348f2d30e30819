/- Two parts of a row of replies changed about in memory; a row turned, step by step. -/
import Derived.Test.YtjefpnhffdeekaaRplV
namespace Go.Proofs.Ytjefpnhffdeekaa
open Go.RowKit
set_option linter.unusedVariables false

section
variable {α : Type} {l X : List α}
/-- The first i and the last i changed about. -/
def Trn (l X : List α) (i : Nat) : Prop := ∃ A C B, l = A ++ (C ++ B) ∧ A.length = i ∧ B.length = i ∧ X = B.reverse ++ (C ++ A.reverse)
theorem Trn.start (l : List α) : Trn l l 0 := ⟨[], l, [], by simp, rfl, rfl, by simp⟩
theorem Trn.len {i : Nat} (h : Trn l X i) : X.length = l.length := by
  obtain ⟨A, C, B, rfl, h1, h2, rfl⟩ := h
  simp; omega
theorem Trn.step {i : Nat} (h : Trn l X i) (hi : i < l.length / 2) : ∃ P y M x Q, X = P ++ y :: (M ++ x :: Q) ∧ P.length = i ∧ (P ++ y :: M).length = l.length - 1 - i ∧ Trn l (P ++ x :: (M ++ y :: Q)) (i + 1) := by
  obtain ⟨A, C, B, rfl, h1, h2, rfl⟩ := h
  have hC : 2 ≤ C.length := by simp at hi; omega
  obtain ⟨y, C', rfl⟩ : ∃ y C', C = y :: C' := by
    cases C with
    | nil => simp at hC
    | cons y C' => exact ⟨y, C', rfl⟩
  obtain ⟨M, x, rfl⟩ : ∃ M x, C' = M ++ [x] := by
    have hne : C' ≠ [] := by intro e; rw [e] at hC; simp at hC
    exact ⟨C'.dropLast, C'.getLast hne, (List.dropLast_concat_getLast hne).symm⟩
  refine ⟨B.reverse, y, M, x, A.reverse, by simp, by simp [h2], by simp; omega, A ++ [y], M, x :: B, by simp, by simp [h1], by simp [h2], by simp⟩
theorem Trn.end_ {i : Nat} (h : Trn l X i) (hi : ¬ i < l.length / 2) : X = l.reverse := by
  obtain ⟨A, C, B, rfl, h1, h2, rfl⟩ := h
  have hC : C.length ≤ 1 := by simp at hi; omega
  have : C.reverse = C := by
    match C, hC with
    | [], _ => rfl
    | [a], _ => rfl
  simp [this]
/-- The pairs, and what is left over. -/
def TrnP (l X : List α) (i : Nat) : Prop := ∃ Y, Trn (prs l) Y i ∧ X = Y.flatten ++ lastOf l
theorem TrnP.start (l : List α) : TrnP l l 0 := ⟨prs l, Trn.start _, (prs_last l).symm⟩
theorem Trn.mem {i : Nat} (h : Trn l X i) : ∀ a, a ∈ X → a ∈ l := by
  obtain ⟨A, C, B, rfl, h1, h2, rfl⟩ := h
  intro a; simp; intro h; rcases h with h | h | h <;> simp [h]
theorem TrnP.len {i : Nat} (h : TrnP l X i) : X.length = l.length := by
  obtain ⟨Y, h1, rfl⟩ := h
  have hY : ∀ p ∈ Y, p.length = 2 := fun p hp => prs_two p (h1.mem p hp)
  rw [List.length_append, prs_flat_len Y hY, h1.len]
  have := congrArg List.length (prs_last l)
  rw [List.length_append, prs_flat_len (prs l) (fun p hp => prs_two p hp)] at this
  exact this
theorem TrnP.step {i : Nat} (h : TrnP l X i) (hi : i < l.length / 2 / 2) : ∃ P y1 y2 M x1 x2 Q, X = P ++ y1 :: (y2 :: M ++ x1 :: (x2 :: Q)) ∧ P.length = 2 * i ∧ (P ++ y1 :: (y2 :: M)).length = 2 * (l.length / 2 - 1 - i) ∧
    TrnP l (P ++ x1 :: (x2 :: M ++ y1 :: (y2 :: Q))) (i + 1) := by
  obtain ⟨Y, h1, rfl⟩ := h
  obtain ⟨P, y, M, x, Q, rfl, hP, hL, hN⟩ := h1.step (by rw [prs_len]; exact hi)
  have h2 : ∀ p ∈ P ++ y :: (M ++ x :: Q), p.length = 2 := fun p hp => prs_two p (h1.mem p hp)
  have hy := h2 y (by simp)
  have hx := h2 x (by simp)
  obtain ⟨y1, y2, rfl⟩ : ∃ a b, y = [a, b] := by
    match y, hy with
    | [a, b], _ => exact ⟨a, b, rfl⟩
  obtain ⟨x1, x2, rfl⟩ : ∃ a b, x = [a, b] := by
    match x, hx with
    | [a, b], _ => exact ⟨a, b, rfl⟩
  have hp2 := prs_flat_len P (fun p hp => h2 p (by simp [hp]))
  have hm2 := prs_flat_len M (fun p hp => h2 p (by simp [hp]))
  refine ⟨P.flatten, y1, y2, M.flatten, x1, x2, Q.flatten ++ lastOf l, by simp, by rw [hp2, hP], ?_, _, hN, by simp⟩
  rw [prs_len] at hL
  simp only [List.length_append, List.length_cons, hp2, hm2] at hL ⊢
  omega
theorem TrnP.end_ {i : Nat} (h : TrnP l X i) (hi : ¬ i < l.length / 2 / 2) : X = (prs l).reverse.flatten ++ lastOf l := by
  obtain ⟨Y, h1, rfl⟩ := h
  rw [h1.end_ (by rw [prs_len]; exact hi)]
end

theorem Own.fourAt {w : World} {B e n g cap : Nat} {P Q : List Value} {a0 a1 a2 a3 : Value} (h : Own w B e 4 (.slice (some ⟨g, 0, none⟩) n cap) n (P ++ a0 :: a1 :: a2 :: a3 :: Q)) {o : Nat} (ho : P.length = o * 4) :
    o + 1 ≤ n ∧ (w.cell? ⟨g, o * 4, none⟩ = some a0 ∧ w.cell? ⟨g, o * 4 + 1, none⟩ = some a1 ∧ w.cell? ⟨g, o * 4 + 2, none⟩ = some a2 ∧ w.cell? ⟨g, o * 4 + 3, none⟩ = some a3) ∧ (∀ r, r < 4 → w.frozen? ⟨g, o * 4 + r, none⟩ = false) := by
  have hl := h.1
  simp only [List.length_append, List.length_cons] at hl
  have hx : ∀ r, r < 4 → (P ++ a0 :: a1 :: a2 :: a3 :: Q)[o * 4 + r]? = [a0, a1, a2, a3][r]? := by
    intro r hr
    rw [List.getElem?_append_right (by omega), show o * 4 + r - P.length = r by omega]
    rcases (show r = 0 ∨ r = 1 ∨ r = 2 ∨ r = 3 by omega) with rfl | rfl | rfl | rfl <;> rfl
  have hc : ∀ r, r < 4 → w.cell? ⟨g, o * 4 + r, none⟩ = [a0, a1, a2, a3][r]? := fun r hr => (h.cellAt (o * 4 + r) (by omega)).trans (hx r hr)
  exact ⟨by omega, ⟨hc 0 (by omega), hc 1 (by omega), hc 2 (by omega), hc 3 (by omega)⟩, fun r hr => h.frozenAt _ (by omega)⟩

theorem OR.far2 {w : World} {B n g cap i j : Nat} {P M Q : List Rep} {y x : Rep} (hn : (P ++ y :: (M ++ x :: Q)).length = n) (hP : P.length = i) (hM : (P ++ y :: M).length = j) (h : OR w B (.slice (some ⟨g, 0, none⟩) n cap) (P ++ y :: (M ++ x :: Q))) :
    ∃ E1 f1 E2 f2, i < j ∧ j < n ∧ B ≤ g ∧ g < w.heap.size ∧
      (w.cell? ⟨g, i * 4, none⟩ = some (.int .i64 y.k) ∧ w.cell? ⟨g, i * 4 + 1, none⟩ = some (sv y.s) ∧ w.cell? ⟨g, i * 4 + 2, none⟩ = some (.int .i64 y.n) ∧ w.cell? ⟨g, i * 4 + 3, none⟩ = some (.slice E1 y.l.length f1)) ∧
      (w.cell? ⟨g, j * 4, none⟩ = some (.int .i64 x.k) ∧ w.cell? ⟨g, j * 4 + 1, none⟩ = some (sv x.s) ∧ w.cell? ⟨g, j * 4 + 2, none⟩ = some (.int .i64 x.n) ∧ w.cell? ⟨g, j * 4 + 3, none⟩ = some (.slice E2 x.l.length f2)) ∧
      (∀ r, r < 4 → w.frozen? ⟨g, i * 4 + r, none⟩ = false) ∧ (∀ r, r < 4 → w.frozen? ⟨g, j * 4 + r, none⟩ = false) ∧
      OR (putAt (putAt w g (i * 4) (.int .i64 x.k) (sv x.s) (.int .i64 x.n) (.slice E2 x.l.length f2)) g (j * 4) (.int .i64 y.k) (sv y.s) (.int .i64 y.n) (.slice E1 y.l.length f1)) B (.slice (some ⟨g, 0, none⟩) n cap) (P ++ x :: (M ++ y :: Q)) := by
  subst hn
  obtain ⟨xs, h1, h2⟩ := h
  have h2 : RLs w (fun b => B ≤ b ∧ b < w.heap.size ∧ b ≠ g) (P ++ y :: (M ++ x :: Q)) xs := RLs.mono (fun b hb => ⟨hb.1, hb.2.1, fun e => hb.2.2 (by rw [e]; rfl)⟩) h2
  have h3 := RLs.take P.length h2
  have h4 := RLs.drop P.length h2
  rw [List.take_left] at h3
  rw [List.drop_left] at h4
  unfold RLs at h4
  obtain ⟨cy, xt, e1, hy, h5⟩ := h4
  have h6 := RLs.take M.length h5
  have h7 := RLs.drop M.length h5
  rw [List.take_left] at h6
  rw [List.drop_left] at h7
  unfold RLs at h7
  obtain ⟨cx, xq, e2, hx, h8⟩ := h7
  obtain ⟨E1, f1, ys1, rfl, _⟩ := hy.fields
  obtain ⟨E2, f2, ys2, rfl, _⟩ := hx.fields
  obtain ⟨xp, hxp⟩ : ∃ xp, xs.take (P.length * 4) = xp := ⟨_, rfl⟩
  obtain ⟨xm, hxm⟩ : ∃ xm, xt.take (M.length * 4) = xm := ⟨_, rfl⟩
  have e : xs = xp ++ (.int .i64 y.k :: sv y.s :: .int .i64 y.n :: .slice E1 y.l.length f1 :: (xm ++ .int .i64 x.k :: sv x.s :: .int .i64 x.n :: .slice E2 x.l.length f2 :: xq)) := by
    conv => lhs; rw [← List.take_append_drop (P.length * 4) xs, e1, ← List.take_append_drop (M.length * 4) xt, e2]
    rw [hxp, hxm]
    rfl
  rw [hxp] at h3
  rw [hxm] at h6
  have lp := RLs.len h3
  have lm := RLs.len h6
  rw [e] at h1
  have q1 := Own.fourAt (o := i) h1 (by rw [lp, hP])
  have e' : xp ++ (.int .i64 y.k :: sv y.s :: .int .i64 y.n :: .slice E1 y.l.length f1 :: (xm ++ .int .i64 x.k :: sv x.s :: .int .i64 x.n :: .slice E2 x.l.length f2 :: xq)) =
    (xp ++ (.int .i64 y.k :: sv y.s :: .int .i64 y.n :: .slice E1 y.l.length f1 :: xm)) ++ (.int .i64 x.k :: sv x.s :: .int .i64 x.n :: .slice E2 x.l.length f2 :: xq) := by simp
  have hj : (xp ++ (.int .i64 y.k :: sv y.s :: .int .i64 y.n :: .slice E1 y.l.length f1 :: xm)).length = j * 4 := by
    simp only [List.length_append, List.length_cons, lp, lm] at hM ⊢
    omega
  have h1b := h1
  rw [e'] at h1b
  have q2 := Own.fourAt (o := j) h1b hj
  have hlt := h1.lt g rfl
  refine ⟨E1, f1, E2, f2, by simp at hM; omega, by omega, hlt.1, hlt.2, q1.2.1, q2.2.1, q1.2.2, q2.2.2, ?_⟩
  have p1 := Own.put (o := i * 4) h1 (by rw [lp, hP]) (.int .i64 x.k) (sv x.s) (.int .i64 x.n) (.slice E2 x.l.length f2)
  have e'' : xp ++ (.int .i64 x.k :: sv x.s :: .int .i64 x.n :: .slice E2 x.l.length f2 :: (xm ++ .int .i64 x.k :: sv x.s :: .int .i64 x.n :: .slice E2 x.l.length f2 :: xq)) =
    (xp ++ (.int .i64 x.k :: sv x.s :: .int .i64 x.n :: .slice E2 x.l.length f2 :: xm)) ++ (.int .i64 x.k :: sv x.s :: .int .i64 x.n :: .slice E2 x.l.length f2 :: xq) := by simp
  rw [e''] at p1
  have p2 := Own.put (o := j * 4) p1 (by simpa using hj) (.int .i64 y.k) (sv y.s) (.int .i64 y.n) (.slice E1 y.l.length f1)
  have hk : ∀ p : Addr, (B ≤ p.block ∧ p.block < w.heap.size ∧ p.block ≠ g) → (putAt (putAt w g (i * 4) (.int .i64 x.k) (sv x.s) (.int .i64 x.n) (.slice E2 x.l.length f2)) g (j * 4) (.int .i64 y.k) (sv y.s) (.int .i64 y.n) (.slice E1 y.l.length f1)).cell? p = w.cell? p := fun p hp => by
    rw [putAt_cell _ _ _ _ _ _ _ hp.2.2, putAt_cell _ _ _ _ _ _ _ hp.2.2]
  refine ⟨_, by simpa using p2, RLs.mono (S := fun b => B ≤ b ∧ b < w.heap.size ∧ b ≠ g) (fun b hb => ⟨hb.1, by rw [putAt_size, putAt_size]; exact hb.2.1, fun e => hb.2.2 (by simpa [Value.ownBlock] using e)⟩) (RLs.keep hk ?_)⟩
  refine RLs.append h3 ?_
  unfold RLs
  refine ⟨[.int .i64 x.k, sv x.s, .int .i64 x.n, .slice E2 x.l.length f2], xm ++ ([.int .i64 y.k, sv y.s, .int .i64 y.n, .slice E1 y.l.length f1] ++ xq), by simp, hx, RLs.append h6 ?_⟩
  unfold RLs
  exact ⟨[.int .i64 y.k, sv y.s, .int .i64 y.n, .slice E1 y.l.length f1], xq, rfl, hy, h8⟩
end Go.Proofs.Ytjefpnhffdeekaa
