/- How replies are sorted: insertion, as the program's sort and the document's answer do it; the plain law. -/
import Derived.Test.YtjefpnhffdeekaaRplP
namespace Go.Proofs.Ytjefpnhffdeekaa
open Go.RowKit
set_option linter.unusedVariables false

section
variable {α : Type}
/-- x put into a row that lies with its end ahead: past all that it is below. -/
def insR (lt : α → α → Bool) (x : α) : List α → List α
  | [] => [x]
  | y :: r => if lt x y then y :: insR lt x r else x :: y :: r
/-- The first ones sorted, their end ahead. -/
def isr (lt : α → α → Bool) (l : List α) : List α := l.foldl (fun acc x => insR lt x acc) []
def isort (lt : α → α → Bool) (l : List α) : List α := (isr lt l).reverse
theorem insR_perm (lt : α → α → Bool) (x : α) : ∀ r : List α, (insR lt x r).Perm (x :: r)
  | [] => List.Perm.refl _
  | y :: r => by
    unfold insR
    split
    · exact ((insR_perm lt x r).cons y).trans (List.Perm.swap x y r)
    · exact List.Perm.refl _
theorem isr_next (lt : α → α → Bool) (l : List α) (x : α) : isr lt (l ++ [x]) = insR lt x (isr lt l) := by unfold isr; rw [List.foldl_append]; rfl
theorem isr_perm (lt : α → α → Bool) (l : List α) : (isr lt l).Perm l := by
  have h : ∀ (l acc : List α), (l.foldl (fun acc x => insR lt x acc) acc).Perm (acc ++ l) := by
    intro l
    induction l with
    | nil => intro acc; simp
    | cons x l ih =>
      intro acc
      rw [List.foldl_cons]
      refine (ih _).trans ?_
      refine ((insR_perm lt x acc).append_right l).trans ?_
      exact (List.perm_middle (l₁ := acc) (l₂ := l) (a := x)).symm
  simpa [isr] using h l []
theorem isort_perm (lt : α → α → Bool) (l : List α) : (isort lt l).Perm l := (List.reverse_perm _).trans (isr_perm lt l)
theorem isort_len (lt : α → α → Bool) (l : List α) : (isort lt l).length = l.length := (isort_perm lt l).length_eq
theorem isr_len (lt : α → α → Bool) (l : List α) : (isr lt l).length = l.length := (isr_perm lt l).length_eq
/-- Where the inner loop stands still: x lies below all that it has passed, and not below the one ahead. -/
theorem insR_at (lt : α → α → Bool) (x : α) (t : List α) (ht : ∀ y r, t = y :: r → lt x y = false) : ∀ d : List α, (∀ y ∈ d, lt x y = true) → insR lt x (d ++ t) = d ++ x :: t
  | [], _ => by
    cases t with
    | nil => rfl
    | cons y r => simp [insR, ht y r rfl]
  | y :: d, h => by
    rw [List.cons_append]; unfold insR
    rw [if_pos (h y (by simp)), insR_at lt x t ht d (fun z hz => h z (by simp [hz]))]; rfl
/-- Sorted: no one below one ahead of it. -/
theorem insR_sorted {lt : α → α → Bool} (has : ∀ a b, lt a b = true → lt b a = false) (htr : ∀ a b c, lt b a = false → lt c b = false → lt c a = false) (x : α) :
    ∀ r : List α, r.Pairwise (fun a b => lt a b = false) → (insR lt x r).Pairwise (fun a b => lt a b = false)
  | [], _ => by simp [insR]
  | y :: r, h => by
    unfold insR
    obtain ⟨h1, h2⟩ := List.pairwise_cons.1 h
    split
    · rename_i hxy
      refine List.pairwise_cons.2 ⟨fun z hz => ?_, insR_sorted has htr x r h2⟩
      rcases List.mem_cons.1 ((insR_perm lt x r).mem_iff.1 hz) with rfl | hz
      · exact has _ _ hxy
      · exact h1 z hz
    · rename_i hxy
      have hxy' : lt x y = false := by simpa using hxy
      refine List.pairwise_cons.2 ⟨fun z hz => ?_, h⟩
      rcases List.mem_cons.1 hz with rfl | hz
      · exact hxy'
      · exact htr _ _ _ (h1 z hz) hxy'
theorem isr_sorted {lt : α → α → Bool} (has : ∀ a b, lt a b = true → lt b a = false) (htr : ∀ a b c, lt b a = false → lt c b = false → lt c a = false) (l : List α) : (isr lt l).Pairwise (fun a b => lt a b = false) := by
  have h : ∀ (l acc : List α), acc.Pairwise (fun a b => lt a b = false) → (l.foldl (fun acc x => insR lt x acc) acc).Pairwise (fun a b => lt a b = false) := by
    intro l
    induction l with
    | nil => intro acc h; exact h
    | cons x l ih => intro acc h; exact ih _ (insR_sorted has htr x acc h)
  exact h l [] List.Pairwise.nil
/-- Rows with the same members are sorted alike. -/
theorem isort_eq {lt : α → α → Bool} (has : ∀ a b, lt a b = true → lt b a = false) (htr : ∀ a b c, lt b a = false → lt c b = false → lt c a = false) (hanti : ∀ a b, lt a b = false → lt b a = false → a = b)
    {l m : List α} (h : l.Perm m) : isort lt l = isort lt m := by
  have : isr lt l = isr lt m := List.Perm.eq_of_pairwise (le := fun a b => lt a b = false) (fun a b _ _ h1 h2 => hanti a b h1 h2) (isr_sorted has htr l) (isr_sorted has htr m) (((isr_perm lt l).trans h).trans (isr_perm lt m).symm)
  unfold isort; rw [this]
theorem insR_map {β : Type} {lt : α → α → Bool} {lt' : β → β → Bool} (f : α → β) (h : ∀ a b, lt' (f a) (f b) = lt a b) (x : α) : ∀ r : List α, (insR lt x r).map f = insR lt' (f x) (r.map f)
  | [] => rfl
  | y :: r => by
    rw [List.map_cons]
    unfold insR
    rw [h]
    split
    · rw [List.map_cons, insR_map f h x r]
    · rfl
theorem isort_map {β : Type} {lt : α → α → Bool} {lt' : β → β → Bool} (f : α → β) (h : ∀ a b, lt' (f a) (f b) = lt a b) (l : List α) : (isort lt l).map f = isort lt' (l.map f) := by
  unfold isort
  rw [List.map_reverse]
  congr 1
  have g : ∀ (l acc : List α), (l.foldl (fun acc x => insR lt x acc) acc).map f = (l.map f).foldl (fun acc x => insR lt' x acc) (acc.map f) := by
    intro l
    induction l with
    | nil => intro acc; rfl
    | cons x l ih => intro acc; rw [List.foldl_cons, ih, insR_map f h, List.map_cons, List.foldl_cons]
  exact g l []
end

/-- Two by two; a last one without a partner is left out. -/
def prs {α : Type} : List α → List (List α)
  | a :: b :: t => [a, b] :: prs t
  | _ => []
def lastOf {α : Type} : List α → List α
  | _ :: _ :: t => lastOf t
  | l => l
/-- Of replies: below. -/
def ltn (a b : Rep) : Bool := decide (ordn a b < 0)
def ltp (a b : List Rep) : Bool := decide (ords a b < 0)
/-- A row of parts in order, by their reply's kind. -/
def arr (k : Int) (l : List Rep) : List Rep :=
  if k = 9 then isort ltn l else if k = 8 then (isort ltp (prs l)).flatten ++ lastOf l else l
mutual
/-- A reply sorted (one that has what its kind has, no more). -/
def srtN : Rep → Rep
  | .mk k s n l => .mk k s n (arr k (srts l))
def srts : List Rep → List Rep
  | [] => []
  | r :: t => srtN r :: srts t
end
theorem srts_map : ∀ l : List Rep, srts l = l.map srtN
  | [] => rfl
  | r :: t => by unfold srts; rw [List.map_cons, srts_map t]
theorem ltn_asymm (a b : Rep) (h : ltn a b = true) : ltn b a = false := by
  unfold ltn at *
  rw [ordn_key] at *
  rw [cmpL_neg] ; simp at h ⊢; omega
theorem ltn_trans (a b c : Rep) (h : ltn b a = false) (h' : ltn c b = false) : ltn c a = false := by
  unfold ltn at *
  simp only [ordn_key, decide_eq_false_iff_not] at *
  have h1 := cmpL_neg (key b) (key a)
  have h2 := cmpL_neg (key c) (key b)
  have h3 := cmpL_neg (key c) (key a)
  have := @cmpL_trans (key a) (key b) (key c) (by omega) (by omega)
  omega
theorem ltn_anti (a b : Rep) (h : ltn a b = false) (h' : ltn b a = false) : a = b := by
  unfold ltn at *
  simp only [decide_eq_false_iff_not] at *
  have h1 := cmpL_neg (key a) (key b)
  rw [← ordn_key, ← ordn_key] at h1
  exact ordn_zero (by omega)
theorem ltp_asymm (a b : List Rep) (h : ltp a b = true) : ltp b a = false := by
  unfold ltp at *
  rw [ords_key] at *
  rw [cmpL_neg] ; simp at h ⊢; omega
theorem ltp_trans (a b c : List Rep) (h : ltp b a = false) (h' : ltp c b = false) : ltp c a = false := by
  unfold ltp at *
  simp only [ords_key, decide_eq_false_iff_not] at *
  have h1 := cmpL_neg (keys b) (keys a)
  have h2 := cmpL_neg (keys c) (keys b)
  have h3 := cmpL_neg (keys c) (keys a)
  have := @cmpL_trans (keys a) (keys b) (keys c) (by omega) (by omega)
  omega
theorem ltp_anti (a b : List Rep) (h : ltp a b = false) (h' : ltp b a = false) : a = b := by
  unfold ltp at *
  simp only [decide_eq_false_iff_not] at *
  have h1 := cmpL_neg (keys a) (keys b)
  rw [← ords_key, ← ords_key] at h1
  exact ords_zero (by omega)
theorem prs_last {α : Type} : ∀ l : List α, (prs l).flatten ++ lastOf l = l
  | [] => rfl
  | [_] => rfl
  | a :: b :: t => by simp [prs, lastOf, prs_last t]
theorem prs_two {α : Type} : ∀ {l : List α}, ∀ p ∈ prs l, p.length = 2
  | [], p, h => by simp [prs] at h
  | [_], p, h => by simp [prs] at h
  | a :: b :: t, p, h => by
    rcases List.mem_cons.1 h with rfl | h
    · rfl
    · exact prs_two p h
theorem lastOf_len {α : Type} : ∀ l : List α, (lastOf l).length = l.length % 2
  | [] => rfl
  | [_] => rfl
  | a :: b :: t => by simp only [lastOf, lastOf_len t, List.length_cons]; omega
theorem prs_len {α : Type} : ∀ l : List α, (prs l).length = l.length / 2
  | [] => by simp [prs]
  | [_] => by simp [prs]
  | a :: b :: t => by simp only [prs, prs_len t, List.length_cons]; omega
theorem prs_flat {α : Type} : ∀ (ps : List (List α)) (z : List α), (∀ p ∈ ps, p.length = 2) → z.length < 2 → prs (ps.flatten ++ z) = ps ∧ lastOf (ps.flatten ++ z) = z
  | [], z, _, hz => by
    match z, hz with
    | [], _ => exact ⟨rfl, rfl⟩
    | [_], _ => exact ⟨rfl, rfl⟩
  | p :: ps, z, h, hz => by
    have h2 := h p (by simp)
    match p, h2 with
    | [a, b], _ =>
      have ih := prs_flat ps z (fun q hq => h q (by simp [hq])) hz
      rw [List.flatten_cons, List.append_assoc]
      exact ⟨by simp only [List.cons_append, List.nil_append, prs, ih.1], by simp only [List.cons_append, List.nil_append, lastOf, ih.2]⟩
theorem arr_perm (k : Int) (l : List Rep) : (arr k l).Perm l := by
  unfold arr
  split
  · exact isort_perm _ _
  · split
    · have h1 : (isort ltp (prs l)).flatten.Perm (prs l).flatten := (isort_perm ltp (prs l)).flatten
      have := h1.append_right (lastOf l)
      rwa [prs_last] at this
    · exact List.Perm.refl _
theorem arr_len (k : Int) (l : List Rep) : (arr k l).length = l.length := (arr_perm k l).length_eq
/-- Sorted again: the same. -/
theorem isort_again {α : Type} {lt : α → α → Bool} (has : ∀ a b, lt a b = true → lt b a = false) (htr : ∀ a b c, lt b a = false → lt c b = false → lt c a = false) (hanti : ∀ a b, lt a b = false → lt b a = false → a = b) (l : List α) :
    isort lt (isort lt l) = isort lt l := isort_eq has htr hanti (isort_perm lt l)
theorem arr_again (k : Int) (l : List Rep) : arr k (arr k l) = arr k l := by
  unfold arr
  split
  · exact isort_again ltn_asymm ltn_trans ltn_anti l
  · split
    · have h2 : ∀ p ∈ isort ltp (prs l), p.length = 2 := fun p hp => prs_two p ((isort_perm ltp (prs l)).mem_iff.1 hp)
      have := prs_flat (isort ltp (prs l)) (lastOf l) h2 (by rw [lastOf_len]; omega)
      rw [this.1, this.2, isort_again ltp_asymm ltp_trans ltp_anti]
    · rfl
theorem srtN_mk (k : Int) (s : List UInt8) (n : Int) (l : List Rep) : srtN (.mk k s n l) = .mk k s n (arr k (l.map srtN)) := by rw [srtN, srts_map]
mutual
theorem srtN_again : ∀ r : Rep, srtN (srtN r) = srtN r
  | .mk k s n l => by
    have h : (arr k (srts l)).map srtN = arr k (srts l) := by
      have e : (arr k (srts l)).map srtN = (arr k (srts l)).map id := List.map_congr_left fun r hr => srts_again l r ((arr_perm k (srts l)).mem_iff.1 hr)
      rw [e, List.map_id]
    rw [srtN_mk, ← srts_map, srtN_mk, h, arr_again]
theorem srts_again : ∀ l : List Rep, ∀ r ∈ srts l, srtN r = r
  | [], r, h => by simp [srts] at h
  | a :: t, r, h => by
    unfold srts at h
    rcases List.mem_cons.1 h with rfl | h
    · exact srtN_again a
    · exact srts_again t r h
end
end Go.Proofs.Ytjefpnhffdeekaa
