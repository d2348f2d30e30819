/- Rows of pairs; the walk of reply's pairs. -/
import Derived.Test.YtjefpnhffdeekaaRplG
namespace Go.Proofs.Ytjefpnhffdeekaa
open Go.RowKit
set_option linter.unusedVariables false

theorem pairinfo : (Try.prog.info? 23).map (fun i => (i.zero, i.size, i.bytes)) = some (some (.slice none 0 0), 1, 24) := by kernel_rfl
/-- A slice of replies as it is read, its cells in S. -/
def LivS (w : World) (S : Nat → Prop) (v : Value) (l : List Rep) : Prop :=
  ∃ A c xs, v = .slice A l.length c ∧ l.length ≤ c ∧ c ≤ maxLen ∧ RD w S A l.length xs ∧ RLs w S l xs
theorem LivS.keep {w w' : World} {S S' : Nat → Prop} {v : Value} {l : List Rep} (h : LivS w S v l) (hk : ∀ p : Addr, S p.block → w'.cell? p = w.cell? p) (hm : ∀ b, S b → S' b) : LivS w' S' v l := by
  obtain ⟨A, c, xs, h1, h2, h3, h4, h5⟩ := h
  exact ⟨A, c, xs, h1, h2, h3, (h4.keep hk).mono hm, (RLs.keep hk h5).mono hm⟩
theorem LivS.livL {w : World} {S : Nat → Prop} {v : Value} {l : List Rep} (h : LivS w S v l) (hm : ∀ b, S b → b < w.heap.size) : LivL w v l := by
  obtain ⟨A, c, xs, h1, h2, h3, h4, h5⟩ := h
  exact ⟨A, c, xs, h1, h2, h3, h4.mono hm, h5.mono hm⟩
/-- A row of slices of replies of one's own, what they hold lying from B on. -/
def PR (w : World) (B : Nat) (v : Value) (ps : List (List Rep)) : Prop :=
  ∃ vs, Own w B 23 1 v ps.length vs ∧ ∀ (i : Nat) (u : Value) (p : List Rep), vs[i]? = some u → ps[i]? = some p → LivS w (fun b => B ≤ b ∧ b < w.heap.size ∧ some b ≠ v.ownBlock) u p
theorem PR.nil (w : World) (B : Nat) : PR w B (.slice none 0 0) [] := ⟨[], Own.nil _ _ _ _, fun i u p h _ => by simp at h⟩
theorem PR.form {w : World} {B : Nat} {v : Value} {ps : List (List Rep)} (h : PR w B v ps) : ∃ A c, v = .slice A ps.length c := by
  obtain ⟨vs, h1, _⟩ := h; exact h1.sliceForm
theorem PR.below {w w' : World} {B : Nat} {v : Value} {ps : List (List Rep)} (h : PR w B v ps) (hb : Below w.heap.size w w') : PR w' B v ps := by
  obtain ⟨vs, h1, h2⟩ := h
  exact ⟨vs, h1.below_ hb, fun i u p hu hp => (h2 i u p hu hp).keep (fun q hq => hb.cell hq.2.1) (fun b hb' => ⟨hb'.1, Nat.lt_of_lt_of_le hb'.2.1 hb.size, hb'.2.2⟩)⟩
theorem PR.len {w : World} {B : Nat} {v : Value} {ps : List (List Rep)} {vs : List Value} (h : Own w B 23 1 v ps.length vs) : vs.length = ps.length := by have := h.1; omega
/-- One more. -/
theorem PR.push {w w2 w3 : World} {B n : Nat} {v v' u : Value} {ps : List (List Rep)} {p : List Rep} {vs : List Value} (hn : ps.length = n) (hB : B ≤ w.heap.size)
    (h1 : Own w B 23 1 v n vs) (h2 : ∀ (i : Nat) (u : Value) (p : List Rep), vs[i]? = some u → ps[i]? = some p → LivS w (fun b => B ≤ b ∧ b < w.heap.size ∧ some b ≠ v.ownBlock) u p)
    (hp : LivS w (fun b => B ≤ b ∧ b < w.heap.size ∧ some b ≠ v.ownBlock) u p) (hb : Below w.heap.size w w2) (hO : Own w3 B 23 1 v' (n + 1) (vs ++ [u])) (hg : w2.grownBy w3 v.ownBlock)
    (hat : v'.ownBlock = v.ownBlock ∨ v'.ownBlock = some w2.heap.size) : PR w3 B v' (ps ++ [p]) := by
  subst hn
  have hs := hb.size
  have hk : ∀ q : Addr, (B ≤ q.block ∧ q.block < w.heap.size ∧ some q.block ≠ v.ownBlock) → w3.cell? q = w.cell? q := fun q hq =>
    (World.cell?_of_block (hg.block _ (Nat.lt_of_lt_of_le hq.2.1 hs) hq.2.2)).trans (hb.cell hq.2.1)
  have hm : ∀ b, (B ≤ b ∧ b < w.heap.size ∧ some b ≠ v.ownBlock) → (B ≤ b ∧ b < w3.heap.size ∧ some b ≠ v'.ownBlock) := fun b hb' => by
    refine ⟨hb'.1, by have := hg.size; omega, fun e => ?_⟩
    rcases hat with h | h
    · exact hb'.2.2 (e.trans h)
    · rw [h] at e; injection e with e; have := hb'.2.1; omega
  have hl := PR.len h1
  refine ⟨vs ++ [u], by rw [List.length_append]; exact hO, fun i x q hx hq => ?_⟩
  rcases Nat.lt_or_ge i ps.length with hi | hi
  · rw [List.getElem?_append_left (by omega)] at hx hq
    exact (h2 i x q hx hq).keep hk hm
  · rw [List.getElem?_append_right (by omega)] at hx hq
    have hi0 : i - ps.length = 0 := by
      rcases Nat.eq_zero_or_pos (i - ps.length) with h | h
      · exact h
      · rw [List.getElem?_eq_none (by simp; omega)] at hq; cases hq
    rw [hl, hi0] at hx
    rw [hi0] at hq
    simp at hx hq
    subst hx hq
    exact hp.keep hk hm
theorem prs_step {α : Type} : ∀ (l : List α) (k : Nat) (a b : α), l[2 * k]? = some a → l[2 * k + 1]? = some b → prs (l.take (2 * (k + 1))) = prs (l.take (2 * k)) ++ [[a, b]]
  | x :: y :: t, 0, a, b, h1, h2 => by simp at h1 h2; subst h1 h2; simp [prs]
  | x :: y :: t, k + 1, a, b, h1, h2 => by
    have ih := prs_step t k a b (by rw [← h1]; rw [show 2 * (k + 1) = 2 * k + 1 + 1 by omega]; simp) (by rw [← h2]; rw [show 2 * (k + 1) + 1 = 2 * k + 1 + 1 + 1 by omega]; simp)
    rw [show 2 * (k + 1 + 1) = 2 * (k + 1) + 1 + 1 by omega, show 2 * (k + 1) = 2 * k + 1 + 1 by omega]
    simp only [List.take_succ_cons, prs, List.cons_append]
    rw [show 2 * k + 1 + 1 = 2 * (k + 1) by omega, ih]
  | [], k, a, b, h1, _ => by simp at h1
  | [x], k, a, b, h1, h2 => by simp at h2
theorem prs_end {α : Type} : ∀ (l : List α) (k : Nat), l.length ≤ 2 * k + 1 → prs (l.take (2 * k)) = prs l
  | [], k, _ => by simp
  | [x], k, _ => by cases k <;> simp [prs, show ∀ k, 2 * (k + 1) = 2 * k + 1 + 1 from fun k => by omega]
  | x :: y :: t, 0, h => by simp at h
  | x :: y :: t, k + 1, h => by
    rw [show 2 * (k + 1) = 2 * k + 1 + 1 by omega]
    simp only [List.take_succ_cons, prs]
    rw [prs_end t k (by simp at h; omega)]
theorem OR.form2 {w : World} {B n c : Nat} {A : Option Addr} {acc : List Rep} (h : OR w B (.slice A n c) acc) : (A = none ∧ acc.length = 0) ∨ ∃ g, A = some ⟨g, 0, none⟩ ∧ B ≤ g ∧ g < w.heap.size := by
  obtain ⟨xs, h1, _⟩ := h
  rcases h1.form with ⟨hv, h0⟩ | ⟨g, cap, hv, h2, h3, _⟩
  · injection hv with e1 _ _; exact .inl ⟨e1, h0⟩
  · injection hv with e1 _ _; exact .inr ⟨g, e1, h2, h3⟩
/-- A view of two neighbours. -/
theorem OR.two {w : World} {B n g cap i : Nat} {acc : List Rep} (h : OR w B (.slice (some ⟨g, 0, none⟩) n cap) acc) (hn : acc.length = n) {a b : Rep} (ha : acc[i]? = some a) (hb : acc[i + 1]? = some b) (hi : i + 2 ≤ n) :
    LivS w (fun k => B ≤ k ∧ k < w.heap.size) (.slice (some ⟨g, i * 4, none⟩) 2 (cap - i)) [a, b] := by
  subst hn
  obtain ⟨xs, h1, h2⟩ := h
  have hc := Own.caps h1
  have h3 : RLs w (fun k => B ≤ k ∧ k < w.heap.size) acc xs := RLs.mono (fun k hk => ⟨hk.1, hk.2.1⟩) h2
  have h4 := RLs.take 2 (RLs.drop i h3)
  have e : (acc.drop i).take 2 = [a, b] := by
    obtain ⟨p1, p2⟩ := List.getElem?_eq_some_iff.1 ha
    obtain ⟨p3, p4⟩ := List.getElem?_eq_some_iff.1 hb
    rw [List.drop_eq_getElem_cons p1, List.drop_eq_getElem_cons p3, p2, p4]; rfl
  rw [e] at h4
  have hl : xs.length = acc.length * 4 := h1.1
  have hlt := h1.lt g rfl
  refine ⟨some ⟨g, i * 4, none⟩, cap - i, (xs.drop (i * 4)).take (2 * 4), rfl, by simp; omega, by omega, ⟨by rw [List.length_take, List.length_drop]; simp; omega, fun _ => ⟨_, rfl, rfl, hlt, fun j u hu => ?_⟩⟩, h4⟩
  rw [List.getElem?_take] at hu
  split at hu
  · rw [List.getElem?_drop] at hu
    rw [spot_add rfl]
    have := h1.cellAt (i * 4 + j) (by omega)
    exact this.trans hu
  · cases hu

set_option maxRecDepth 100000 in
set_option maxHeartbeats 8000000 in
theorem pairs_any {B n : Nat} {v : Value} (acc : List Rep) (w : World) (hor : OR w B v acc) (hn : acc.length = n) (hn1 : n ≤ 1000) (hB : B ≤ w.heap.size) :
    Calls Try.prog 15 #[v] w fun e w' => ∃ v', e = .returned v' ∧ PR w' B v' (prs acc) ∧ (∀ k, v'.ownBlock = some k → w.heap.size ≤ k) ∧ Below w.heap.size w w' := by
  obtain ⟨it, hi', hy0, hy1, hy2⟩ := info_parts pairinfo
  obtain ⟨A, c, rfl⟩ := hor.form
  have hcap : n ≤ c ∧ c ≤ maxLen := by
    obtain ⟨xs, h1, _⟩ := id hor
    rw [← hn]; exact Own.caps h1
  unfold maxLen at hcap
  have HN := Lib.hid hn
  rw [hn] at hor ⊢
  have HO := Lib.hid hor
  clear hn hor
  go_enter Try.func15, Try.ntmps15
  go_wp2_with fail
  go_loopw [3, 4] (fun x y wr => ∃ k, y = .int .i64 ((2 * k : Nat) : Int) ∧ 2 * k ≤ n + 1 ∧ PR wr B x (prs (acc.take (2 * k))) ∧ (∀ j, x.ownBlock = some j → w.heap.size ≤ j) ∧ Below w.heap.size w wr) (fun x y _ => n + 2 - (nOf y).toNat)
  case atStart => exact ⟨0, rfl, by omega, by simpa [prs] using PR.nil w B, fun j h => by simp [Value.ownBlock] at h, Below.refl _ _⟩
  case round =>
    obtain ⟨k, rfl, hk, hpr, hown, hbel⟩ := hrel
    obtain ⟨A2, c2, rfl⟩ := hpr.form
    obtain ⟨vs, ho, hvs⟩ := id hpr
    obtain ⟨q, hq⟩ : ∃ q, (prs (acc.take (2 * k))).length = q := ⟨_, rfl⟩
    have HQ := Lib.hid hq
    have HQL : q ≤ 1000 := by rw [← hq, prs_len, List.length_take, HN.out]; omega
    rw [hq] at ho hown hpr hvs ⊢
    have HB := Lib.hid hbel
    have HOW := Lib.hid hown
    have HVS := Lib.hid hvs
    have HPR := Lib.hid hpr
    have HOO := Lib.hid ho
    clear hpr hown hbel ho hvs hq
    by_cases hlt : 2 * k + 1 < n
    · have i1 : ((2 * k : Nat) : Int) + 1 < (n : Int) := by omega
      rcases HO.out.form2 with ⟨_, h0⟩ | ⟨g, rfl, hgB⟩
      · rw [HN.out] at h0; omega
      · have hk1 : 2 * k < acc.length := by rw [HN.out]; omega
        have hk2 : 2 * k + 1 < acc.length := by rw [HN.out]; omega
        have HST := Lib.hid (prs_step acc k _ _ (List.getElem?_eq_getElem hk1) (List.getElem?_eq_getElem hk2))
        have HV := Lib.hid (OR.two HO.out HN.out (List.getElem?_eq_getElem hk1) (List.getElem?_eq_getElem hk2) (by omega))
        obtain ⟨a0, ha0⟩ : ∃ a : Addr, (⟨g, 0, none⟩ : Addr) = a := ⟨_, rfl⟩
        have HA := Lib.hid ha0
        have HA4 := Lib.hid (fun k : Nat => (show a0.add k = ⟨g, k, none⟩ by rw [← ha0, spot_add rfl]; simp))
        rw [ha0]
        clear ha0
        have i2 : (0 : Int) ≤ ((2 * k : Nat) : Int) := by omega
        have i3 : ((2 * k : Nat) : Int) + 2 ≤ (c : Int) := by omega
        have i4 : ((2 * k : Nat) : Int) ≤ ((2 * k : Nat) : Int) + 2 := by omega
        have hVV := HV.out.keep (w' := wr) (S' := fun b => B ≤ b ∧ b < wr.heap.size ∧ some b ≠ (Value.slice A2 q c2).ownBlock) (fun p hp => HB.out.cell hp.2) (fun b hb => ⟨hb.1, Nat.lt_of_lt_of_le hb.2 HB.out.size, fun e => by have := HOW.out b e.symm; have := hb.2; omega⟩)
        rw [show (⟨g, 2 * k * 4, none⟩ : Addr) = a0.add (2 * k * 4) from (HA4.out _).symm] at hVV
        have HVV := Lib.hid hVV
        have hBw : B ≤ wr.heap.size := Nat.le_trans hB HB.out.size
        clear hVV
        go_wp2_with (at_builtin
                     refine wpList_append_Own _ rfl (.tmp 12) (.tmp 18) _ _ rfl B 23 it _ 1 24 Try.underlying40 hi' hy0 hy1 hy2 rfl (.slice A2 q c2) q vs rfl (HOO.out.alloc _) _ 1 [.slice (some (a0.add (2 * k * 4))) 2 (c - 2 * k)] rfl (Src.own (Own.lit (base := wr.heap.size) wr #[.slice (some (a0.add (2 * k * 4))) 2 (c - 2 * k)] 1 (Nat.le_refl _) (by decide) rfl) Try.underlying40 (by intro v hv; simp at hv; subst hv; rfl) (by decide)) (by unfold maxLen; omega) (by omega) (by simp; omega) ?_
                     intro v1 w2 hO hg hat)
        have hb2 : Below wr.heap.size wr (wr.alloc (.cells #[.slice (some (a0.add (2 * k * 4))) 2 (c - 2 * k)] 23)) := (Below.refl _ _).alloc (Nat.le_refl _) _
        have hPR2 := PR.push HQ.out hBw HOO.out HVS.out HVV.out hb2 hO hg hat
        rw [← HST.out] at hPR2
        go_roundw
        case rel =>
          refine ⟨k + 1, by first | go_num | (congr 1; omega), by omega, hPR2, fun j hj => ?_, (HB.out.trans (hb2.mono HB.out.size)).grown hg (by simp; have := HB.out.size; omega) (fun j hj => HOW.out j hj)⟩
          rcases hat with h | h
          · exact HOW.out j (h.symm.trans hj)
          · rw [h] at hj; injection hj with hj; have := HB.out.size; simp at hj; omega
        case measure => simp [nOf]; omega
    · have i1 : ¬ ((2 * k : Nat) : Int) + 1 < (n : Int) := by omega
      have HE := Lib.hid (prs_end acc k (by rw [HN.out]; omega))
      go_wp2_with fail
      go_ret
      exact ⟨.slice A2 q c2, rfl, by rw [← HE.out]; exact HPR.out, HOW.out, HB.out⟩
end Go.Proofs.Ytjefpnhffdeekaa
