/- Plain: the steps of quoted, word and words along a text, as loops take them. No program in sight. -/
import Derived.Test.YtjdnpgdedbegfaaReqR
namespace Go.Proofs.Ytjdnpgdedbegfaa.Rq
set_option linter.unusedVariables false

theorem quoted_suf : ∀ {q : UInt8} {l p r : B}, quoted q l = some (p, r) → r <:+ l ∧ r.length < l.length
  | q, [], p, r, h => by simp [quoted] at h
  | q, [c], p, r, h => by
    unfold quoted at h
    split at h
    · simp only [Option.some.injEq, Prod.mk.injEq] at h
      obtain ⟨_, rfl⟩ := h
      exact ⟨List.nil_suffix, by simp⟩
    · cases h
  | q, c :: d :: t, p, r, h => by
    unfold quoted at h
    split at h
    · simp only [Option.some.injEq, Prod.mk.injEq] at h
      obtain ⟨_, rfl⟩ := h
      exact ⟨List.suffix_cons _ _, by simp⟩
    · split at h
      · rcases hq : quoted q t with _ | ⟨p1, r1⟩
        · rw [hq] at h; simp at h
        · rw [hq] at h
          simp only [Option.map_some, Option.some.injEq, Prod.mk.injEq] at h
          obtain ⟨_, rfl⟩ := h
          have := quoted_suf hq
          exact ⟨(this.1.trans (List.suffix_cons _ _)).trans (List.suffix_cons _ _), by simp; omega⟩
      · rcases hq : quoted q (d :: t) with _ | ⟨p1, r1⟩
        · rw [hq] at h; simp at h
        · rw [hq] at h
          simp only [Option.map_some, Option.some.injEq, Prod.mk.injEq] at h
          obtain ⟨_, rfl⟩ := h
          have := quoted_suf hq
          refine ⟨this.1.trans (List.suffix_cons _ _), ?_⟩
          have h2 := this.2
          simp at h2 ⊢; omega
theorem word_suf : ∀ {l w r : B}, word l = some (w, r) → r <:+ l ∧ ends r = true
  | [], w, r, h => by
    simp only [word, Option.some.injEq, Prod.mk.injEq] at h
    obtain ⟨_, rfl⟩ := h
    exact ⟨List.suffix_refl _, rfl⟩
  | c :: t, w, r, h => by
    unfold word at h
    split at h
    · rename_i hb
      simp only [Option.some.injEq, Prod.mk.injEq] at h
      obtain ⟨_, rfl⟩ := h
      exact ⟨List.suffix_refl _, hb⟩
    · split at h
      · rcases hq : word t with _ | ⟨p1, r1⟩
        · rw [hq] at h; simp at h
        · rw [hq] at h
          simp only [Option.map_some, Option.some.injEq, Prod.mk.injEq] at h
          obtain ⟨_, rfl⟩ := h
          have := word_suf hq
          exact ⟨this.1.trans (List.suffix_cons _ _), this.2⟩
      · rcases hq : quoted c t with _ | ⟨p1, r1⟩
        · rw [hq] at h; simp at h
        · rw [hq] at h
          simp only at h
          split at h
          · rename_i he
            simp only [Option.some.injEq, Prod.mk.injEq] at h
            obtain ⟨_, rfl⟩ := h
            exact ⟨(quoted_suf hq).1.trans (List.suffix_cons _ _), he⟩
          · cases h
theorem word_less {c : UInt8} {t w r : B} (hb : blank c = false) (h : word (c :: t) = some (w, r)) : r.length < (c :: t).length := by
  unfold word at h
  rw [hb, if_neg (by decide)] at h
  split at h
  · rcases hq : word t with _ | ⟨p1, r1⟩
    · rw [hq] at h; simp at h
    · rw [hq] at h
      simp only [Option.map_some, Option.some.injEq, Prod.mk.injEq] at h
      obtain ⟨_, rfl⟩ := h
      have := (word_suf hq).1.length_le
      simp; omega
  · rcases hq : quoted c t with _ | ⟨p1, r1⟩
    · rw [hq] at h; simp at h
    · rw [hq] at h
      simp only at h
      split at h
      · simp only [Option.some.injEq, Prod.mk.injEq] at h
        obtain ⟨_, rfl⟩ := h
        have := (quoted_suf hq).2
        simp; omega
      · cases h

/-! ### All words, without fuel -/
def wordsA (l : B) : Option (List B) := wordsN l.length l
theorem wordsN_eq : ∀ (f g : Nat) (l : B), l.length ≤ f → l.length ≤ g → wordsN f l = wordsN g l
  | 0, 0, l, _, _ => rfl
  | 0, g + 1, l, hf, _ => by
    cases l with
    | nil => rfl
    | cons c t => simp at hf
  | f + 1, 0, l, _, hg => by
    cases l with
    | nil => rfl
    | cons c t => simp at hg
  | f + 1, g + 1, [], hf, hg => rfl
  | f + 1, g + 1, c :: t, hf, hg => by
    simp only [List.length_cons] at hf hg
    unfold wordsN
    split
    · exact wordsN_eq f g t (by omega) (by omega)
    · rename_i hb
      rcases h : word (c :: t) with _ | ⟨w, r⟩
      · rfl
      · have := word_less (by simpa using hb) h
        simp only [List.length_cons] at this ⊢
        rw [wordsN_eq f g r (by omega) (by omega)]
theorem wordsA_nil : wordsA [] = some [] := rfl
theorem wordsA_blank {c : UInt8} {t : B} (hb : blank c = true) : wordsA (c :: t) = wordsA t := by
  unfold wordsA
  rw [List.length_cons]
  conv => lhs; unfold wordsN
  rw [hb, if_pos rfl]
theorem wordsA_bad {c : UInt8} {t : B} (hb : blank c = false) (h : word (c :: t) = none) : wordsA (c :: t) = none := by
  unfold wordsA
  rw [List.length_cons]
  conv => lhs; unfold wordsN
  rw [hb, if_neg (by decide), h]
theorem wordsA_word {c : UInt8} {t w r : B} (hb : blank c = false) (h : word (c :: t) = some (w, r)) : wordsA (c :: t) = (wordsA r).map (w :: ·) := by
  have hl := word_less hb h
  simp only [List.length_cons] at hl
  unfold wordsA
  rw [List.length_cons]
  conv => lhs; unfold wordsN
  rw [hb, if_neg (by decide), h]
  simp only
  rw [wordsN_eq t.length r.length r (by omega) (Nat.le_refl _)]
theorem words_none {l : B} (h : wordsA l = none) : words l = none := by unfold words; unfold wordsA at h; rw [h]
theorem words_many {l : B} {ws : List B} (h : wordsA l = some ws) (hn : 256 < ws.length) : words l = none := by
  unfold words; unfold wordsA at h; rw [h]; simp only; rw [if_pos hn]
theorem words_some {l : B} {ws : List B} (h : wordsA l = some ws) (hn : ws.length ≤ 256) : words l = some ws := by
  unfold words; unfold wordsA at h; rw [h]; simp only; rw [if_neg (by omega)]

/-! ### Along a text: what is read already, and where -/
theorem suf_drop {r l : B} (h : r <:+ l) : r = l.drop (l.length - r.length) := by
  obtain ⟨t, rfl⟩ := h
  simp
theorem drop_step {l : B} {i : Nat} (h : i < l.length) : l.drop i = l[i] :: l.drop (i + 1) := List.drop_eq_getElem_cons h

/-- quoted, at i, with acc before it. -/
def QAt (q : UInt8) (l : B) (i : Nat) (acc : B) : Prop := i ≤ l.length ∧ quoted q l = (quoted q (l.drop i)).map (fun p => (acc ++ p.1, p.2))
theorem QAt.start (q : UInt8) (l : B) : QAt q l 0 [] := ⟨by omega, by
  rw [List.drop_zero]
  rcases quoted q l with _ | ⟨p, r⟩ <;> rfl⟩
theorem QAt.out {q : UInt8} {l acc : B} {i : Nat} (h : QAt q l i acc) (hi : ¬ i < l.length) : quoted q l = none := by
  rw [h.2, List.drop_eq_nil_of_le (by omega)]; rfl
theorem QAt.hit {q : UInt8} {l acc : B} {i : Nat} (h : QAt q l i acc) (hi : i < l.length) (hc : l[i] = q) : quoted q l = some (acc, l.drop (i + 1)) := by
  rw [h.2, drop_step hi, hc, quoted_end]; simp
theorem QAt.esc_ {q : UInt8} {l acc : B} {i : Nat} (h : QAt q l i acc) (hi : i + 1 < l.length) (hq : q ≠ 92) (hc : l[i] = 92) (hd : q = 34 ∨ l[i + 1] = q) : QAt q l (i + 2) (acc ++ [esc q l[i + 1]]) := by
  refine ⟨by omega, ?_⟩
  rw [h.2, drop_step (show i < l.length by omega), hc, drop_step hi, quoted_esc q _ _ hq hd]
  rcases quoted q (l.drop (i + 1 + 1)) with _ | ⟨p, r⟩ <;> simp
theorem QAt.next {q : UInt8} {l acc : B} {i : Nat} (h : QAt q l i acc) (hi : i < l.length) (hq : ¬ l[i] = q) (hc : ¬ (l[i] = 92 ∧ ∃ hj : i + 1 < l.length, (q = 34 ∨ l[i + 1] = q))) : QAt q l (i + 1) (acc ++ [l[i]]) := by
  refine ⟨by omega, ?_⟩
  rw [h.2, drop_step hi]
  by_cases hj : i + 1 < l.length
  · rw [drop_step hj]
    conv => lhs; unfold quoted
    rw [if_neg hq, if_neg (fun e => hc ⟨e.1, hj, e.2⟩)]
    rcases quoted q (l[i + 1] :: l.drop (i + 1 + 1)) with _ | ⟨p, r⟩ <;> simp
  · rw [List.drop_eq_nil_of_le (show l.length ≤ i + 1 by omega)]
    conv => lhs; unfold quoted
    rw [if_neg hq]; rfl

/-- word, at i, with acc before it. -/
def WAt (l : B) (i : Nat) (acc : B) : Prop := i ≤ l.length ∧ word l = (word (l.drop i)).map (fun p => (acc ++ p.1, p.2))
theorem WAt.start (l : B) : WAt l 0 [] := ⟨by omega, by
  rw [List.drop_zero]
  rcases word l with _ | ⟨p, r⟩ <;> rfl⟩
theorem WAt.out {l acc : B} {i : Nat} (h : WAt l i acc) (hi : ¬ i < l.length) : word l = some (acc, l.drop i) := by
  rw [h.2, List.drop_eq_nil_of_le (by omega)]; simp [word]
theorem WAt.blank_ {l acc : B} {i : Nat} (h : WAt l i acc) (hi : i < l.length) (hb : blank l[i] = true) : word l = some (acc, l.drop i) := by
  rw [h.2, drop_step hi]; unfold word; rw [hb, if_pos rfl]; simp
theorem WAt.next {l acc : B} {i : Nat} (h : WAt l i acc) (hi : i < l.length) (hb : blank l[i] = false) (hc : l[i] ≠ 34 ∧ l[i] ≠ 39) : WAt l (i + 1) (acc ++ [l[i]]) := by
  refine ⟨by omega, ?_⟩
  rw [h.2, drop_step hi]
  conv => lhs; unfold word
  rw [hb, if_neg (by decide), if_pos hc]
  rcases word (l.drop (i + 1)) with _ | ⟨p, r⟩ <;> simp
theorem WAt.bad {l acc : B} {i : Nat} (h : WAt l i acc) (hi : i < l.length) (hb : blank l[i] = false) (hc : ¬ (l[i] ≠ 34 ∧ l[i] ≠ 39)) (hq : quoted l[i] (l.drop (i + 1)) = none) : word l = none := by
  rw [h.2, drop_step hi]; unfold word; rw [hb, if_neg (by decide), if_neg hc, hq]; rfl
theorem WAt.late {l acc p r : B} {i : Nat} (h : WAt l i acc) (hi : i < l.length) (hb : blank l[i] = false) (hc : ¬ (l[i] ≠ 34 ∧ l[i] ≠ 39)) (hq : quoted l[i] (l.drop (i + 1)) = some (p, r)) (he : ends r = false) : word l = none := by
  rw [h.2, drop_step hi]; unfold word; rw [hb, if_neg (by decide), if_neg hc, hq]; simp only; rw [he]; rfl
theorem WAt.quote_ {l acc p r : B} {i : Nat} (h : WAt l i acc) (hi : i < l.length) (hb : blank l[i] = false) (hc : ¬ (l[i] ≠ 34 ∧ l[i] ≠ 39)) (hq : quoted l[i] (l.drop (i + 1)) = some (p, r)) (he : ends r = true) : word l = some (acc ++ p, r) := by
  rw [h.2, drop_step hi]; unfold word; rw [hb, if_neg (by decide), if_neg hc, hq]; simp only; rw [if_pos he]; rfl

/-- words, at i, with acc before them. -/
def WsAt (l : B) (i : Nat) (acc : List B) : Prop := i ≤ l.length ∧ wordsA l = (wordsA (l.drop i)).map (acc ++ ·)
theorem WsAt.start (l : B) : WsAt l 0 [] := ⟨by omega, by
  rw [List.drop_zero]
  rcases wordsA l with _ | p <;> rfl⟩
theorem WsAt.out {l : B} {acc : List B} {i : Nat} (h : WsAt l i acc) (hi : ¬ i < l.length) : wordsA l = some acc := by
  rw [h.2, List.drop_eq_nil_of_le (by omega), wordsA_nil]; simp
theorem WsAt.blank_ {l : B} {acc : List B} {i : Nat} (h : WsAt l i acc) (hi : i < l.length) (hb : blank l[i] = true) : WsAt l (i + 1) acc := by
  refine ⟨by omega, ?_⟩
  rw [h.2, drop_step hi, wordsA_blank hb]
theorem WsAt.bad {l : B} {acc : List B} {i : Nat} (h : WsAt l i acc) (hi : i < l.length) (hb : blank l[i] = false) (hw : word (l.drop i) = none) : wordsA l = none := by
  rw [h.2, drop_step hi, wordsA_bad hb (by rw [← drop_step hi]; exact hw)]; rfl
theorem WsAt.next {l : B} {acc : List B} {i n : Nat} {w r : B} (h : WsAt l i acc) (hi : i < l.length) (hb : blank l[i] = false) (hw : word (l.drop i) = some (w, r)) (hn : n = (l.drop i).length - r.length) : WsAt l (i + n) (acc ++ [w]) ∧ 0 < n := by
  have hs := word_suf hw
  have hd := suf_drop hs.1
  have hl := hs.1.length_le
  have hw' := hw
  rw [drop_step hi] at hw'
  have hless := word_less hb hw'
  rw [← drop_step hi] at hless
  have hdl : (l.drop i).length = l.length - i := List.length_drop
  refine ⟨⟨by omega, ?_⟩, by omega⟩
  rw [h.2, drop_step hi, wordsA_word hb hw']
  rw [← hn, List.drop_drop] at hd
  rw [← hd]
  rcases wordsA r with _ | p <;> simp
theorem WsAt.many {l : B} {acc : List B} {i : Nat} (h : WsAt l i acc) (ha : 256 ≤ acc.length) (hi : i < l.length) (hb : blank l[i] = false) {w r : B} (hw : word (l.drop i) = some (w, r)) : words l = none := by
  have hw' := hw
  rw [drop_step hi] at hw'
  have h2 := h.2
  rw [drop_step hi, wordsA_word hb hw'] at h2
  rcases hr : wordsA r with _ | p
  · rw [hr] at h2; exact words_none h2
  · rw [hr] at h2
    exact words_many h2 (by simp; omega)
end Go.Proofs.Ytjdnpgdedbegfaa.Rq
