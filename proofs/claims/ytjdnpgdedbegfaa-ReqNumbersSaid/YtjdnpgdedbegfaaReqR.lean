/- Plain: all requests of a row of bytes; pieces; what is made is read again; what is quoted is read as itself. No program in sight. -/
import Derived.Test.YtjdnpgdedbegfaaReqQ
namespace Go.Proofs.Ytjdnpgdedbegfaa.Rq
set_option linter.unusedVariables false

/-! ### All, without fuel -/
theorem nxt_less {l : B} {ws : List B} {r : B} (h : nxt l = some (some (ws, r))) : r.length < l.length := (nxt_whole [] h).2
theorem allN_eq : ∀ (f g : Nat) (l : B), l.length ≤ f → l.length ≤ g → allN f l = allN g l
  | 0, 0, l, _, _ => rfl
  | 0, g + 1, l, hf, _ => by
    cases l with
    | nil => rfl
    | cons c t => simp at hf
  | f + 1, 0, l, _, hg => by
    cases l with
    | nil => rfl
    | cons c t => simp at hg
  | f + 1, g + 1, l, hf, hg => by
    unfold allN
    rcases h : nxt l with _ | _ | ⟨ws, r⟩
    · rfl
    · rfl
    · have := nxt_less h
      simp only
      rw [allN_eq f g r (by omega) (by omega)]
theorem all_none {l : B} (h : nxt l = none) : all l = ([], l, true) := by
  unfold all
  cases l with
  | nil => simp [nxt] at h
  | cons c t => simp only [List.length_cons]; unfold allN; rw [h]
theorem all_part {l : B} (h : nxt l = some none) : all l = ([], l, false) := by
  unfold all
  cases l with
  | nil => simp [allN, nxt]
  | cons c t => simp only [List.length_cons]; unfold allN; rw [h]
theorem all_whole {l : B} {ws : List B} {r : B} (h : nxt l = some (some (ws, r))) : all l = ((if ws = [] then (all r).1 else ws :: (all r).1), (all r).2) := by
  have hl := nxt_less h
  unfold all
  cases l with
  | nil => simp at hl
  | cons c t =>
    simp only [List.length_cons] at hl ⊢
    rw [show allN (t.length + 1) (c :: t) = ((if ws = [] then (allN t.length r).1 else ws :: (allN t.length r).1), (allN t.length r).2) from by
      conv => lhs; unfold allN
      rw [h]]
    rw [allN_eq t.length r.length r (by omega) (Nat.le_refl _)]

theorem all_stuck : ∀ (k : Nat) {l : B}, l.length ≤ k → nxt (all l).2.1 = if (all l).2.2 = true then none else some none
  | k, l, hk => by
    rcases h : nxt l with _ | _ | ⟨ws, r⟩
    · rw [all_none h]; simpa using h
    · rw [all_part h]; simpa using h
    · have := nxt_less h
      rw [all_whole h]
      cases k with
      | zero => omega
      | succ k => exact all_stuck k (l := r) (by omega)
theorem all_left {l : B} {x : List (List B)} {r : B} {bad : Bool} (h : all l = (x, r, bad)) : all r = ([], r, bad) := by
  have := all_stuck l.length (Nat.le_refl l.length)
  rw [h] at this
  cases bad with
  | true => exact all_none (by simpa using this)
  | false => exact all_part (by simpa using this)
/-- In pieces, the bytes tell the same. -/
theorem all_more : ∀ (k : Nat) {l : B} (m : B), l.length ≤ k → all (l ++ m) = if (all l).2.2 = true then ((all l).1, (all l).2.1 ++ m, true) else ((all l).1 ++ (all ((all l).2.1 ++ m)).1, (all ((all l).2.1 ++ m)).2)
  | k, l, m, hk => by
    rcases h : nxt l with _ | _ | ⟨ws, r⟩
    · rw [all_none h, all_none (nxt_wrong m h)]; rfl
    · rw [all_part h]; simp
    · have hl := nxt_less h
      rw [all_whole h, all_whole (nxt_whole m h).1]
      cases k with
      | zero => omega
      | succ k =>
        rw [all_more k (l := r) m (by omega)]
        by_cases hb : (all r).2.2 = true
        · simp only [if_pos hb]
        · simp only [if_neg hb]
          by_cases hw : ws = []
          · simp [hw]
          · simp [hw]
theorem all_bad {l m : B} {x : List (List B)} {r : B} (h : all l = (x, r, true)) : all (l ++ m) = (x, r ++ m, true) := by
  rw [all_more l.length m (Nat.le_refl _), h]; rfl
theorem all_good {l m : B} {x : List (List B)} {r : B} (h : all l = (x, r, false)) : all (l ++ m) = (x ++ (all (r ++ m)).1, (all (r ++ m)).2) := by
  rw [all_more l.length m (Nat.le_refl _), h]; rfl
/-! ### What is left is an end of what was there -/
theorem number_suf {a b : Int} {l : B} {x : Int} {r : B} (h : number a b l = some (some (x, r))) : r <:+ l := by
  unfold number at h
  rcases hc : crlf l with _ | n
  · rw [hc] at h; simp only at h; split at h <;> cases h
  · rw [hc] at h
    simp only at h
    split at h
    · cases h
    · rcases hp : Num.prs (l.take n) with _ | y
      · rw [hp] at h; cases h
      · rw [hp] at h
        simp only at h
        split at h
        · cases h
        · injection h with h; injection h with h; injection h with h1 h2
          subst h2
          exact List.drop_suffix _ _
theorem bulk_suf {l : B} {s r : B} (h : bulk l = some (some (s, r))) : r <:+ l := by
  cases l with
  | nil => simp [bulk] at h
  | cons c t =>
    unfold bulk at h
    simp only at h
    split at h
    · cases h
    · rcases hn : number 0 65536 t with _ | _ | ⟨x, r1⟩
      · rw [hn] at h; cases h
      · rw [hn] at h; simp at h
      · rw [hn] at h
        simp only at h
        split at h
        · simp at h
        · split at h
          · injection h with h; injection h with h; injection h with h1 h2
            subst h2
            exact ((List.drop_suffix _ _).trans (number_suf hn)).trans (List.suffix_cons _ _)
          · cases h
theorem bulks_suf : ∀ (n : Nat) {l : B} {ss : List B} {r : B}, bulks n l = some (some (ss, r)) → r <:+ l
  | 0, l, ss, r, h => by
    simp only [bulks, Option.some.injEq, Prod.mk.injEq] at h
    obtain ⟨_, rfl⟩ := h
    exact List.suffix_refl _
  | n + 1, l, ss, r, h => by
    unfold bulks at h
    rcases hb : bulk l with _ | _ | ⟨s, r1⟩
    · rw [hb] at h; cases h
    · rw [hb] at h; simp at h
    · rw [hb] at h
      simp only at h
      rcases hbs : bulks n r1 with _ | _ | ⟨ss1, r2⟩
      · rw [hbs] at h; cases h
      · rw [hbs] at h; simp at h
      · rw [hbs] at h
        simp only [Option.some.injEq, Prod.mk.injEq] at h
        obtain ⟨_, rfl⟩ := h
        exact (bulks_suf n hbs).trans (bulk_suf hb)
theorem nxt_suf {l : B} {ss : List B} {r : B} (h : nxt l = some (some (ss, r))) : r <:+ l := by
  cases l with
  | nil => simp [nxt] at h
  | cons c t =>
    unfold nxt at h
    simp only at h
    split at h
    · unfold arr at h
      rcases hn : number (-1) 256 t with _ | _ | ⟨x, r1⟩
      · rw [hn] at h; cases h
      · rw [hn] at h; simp at h
      · rw [hn] at h
        exact ((bulks_suf _ h).trans (number_suf hn)).trans (List.suffix_cons _ _)
    · unfold inl at h
      rcases hi : idx 10 (c :: t) with _ | n
      · rw [hi] at h; simp only at h; split at h <;> cases h
      · rw [hi] at h
        simp only at h
        split at h
        · cases h
        · rcases hw : words (chop ((c :: t).take n)) with _ | ws
          · rw [hw] at h; cases h
          · rw [hw] at h
            simp only [Option.some.injEq, Prod.mk.injEq] at h
            obtain ⟨_, rfl⟩ := h
            exact List.drop_suffix _ _
theorem all_suf : ∀ (k : Nat) {l : B}, l.length ≤ k → (all l).2.1 <:+ l := by
  intro k
  induction k with
  | zero =>
    intro l hk
    cases l with
    | nil => simp [all, allN]
    | cons c t => simp at hk
  | succ k ih =>
    intro l hk
    rcases h : nxt l with _ | _ | ⟨ws, r⟩
    · rw [all_none h]; exact List.suffix_refl _
    · rw [all_part h]; exact List.suffix_refl _
    · have hl := nxt_less h
      rw [all_whole h]
      exact (ih (l := r) (by omega)).trans (nxt_suf h)

/-! ### What is made is read again -/
theorem digs_no13 {l : B} (h : Num.Digs l) : ∀ c ∈ l, c ≠ 13 := by
  intro c hc e
  have := (h c hc).1
  rw [e] at this
  exact absurd this (by decide)
theorem fmt_no13 (x : Int) : ∀ c ∈ Num.fmt x, c ≠ 13 := by
  unfold Num.fmt
  split
  · intro c hc
    rcases List.mem_cons.mp hc with rfl | hc
    · decide
    · exact digs_no13 (Num.digs_uns _) c hc
  · exact digs_no13 (Num.digs_uns _)
theorem number_made (a b x : Int) (r : B) (h1 : -9223372036854775808 ≤ x) (h2 : x ≤ 9223372036854775807) (ha : a ≤ x) (hb : x ≤ b) :
    number a b (Num.fmt x ++ (13 :: 10 :: r)) = some (some (x, r)) := by
  unfold number
  rw [crlf_line _ r (fmt_no13 x)]
  have hl := Num.fmt_length x
  simp only
  rw [if_neg (by omega), List.take_left, Num.prs_fmt x h1 h2]
  simp only
  rw [if_neg (by omega), List.drop_append]
  simp
theorem bulk_made (s r : B) (h : s.length ≤ 65536) : bulk (mkBulk s ++ r) = some (some (s, r)) := by
  unfold mkBulk
  rw [List.cons_append]
  unfold bulk
  simp only
  rw [if_neg (by decide), List.append_assoc, show ([13, 10] ++ (s ++ [13, 10])) ++ r = 13 :: 10 :: (s ++ (13 :: 10 :: r)) from by simp]
  rw [number_made 0 65536 (s.length : Int) _ (by omega) (by omega) (by omega) (by omega)]
  simp
theorem bulks_made : ∀ (ss : List B) (r : B), (∀ s ∈ ss, s.length ≤ 65536) → bulks ss.length ((ss.map mkBulk).flatten ++ r) = some (some (ss, r))
  | [], r, _ => by simp [bulks]
  | s :: ss, r, h => by
    simp only [List.length_cons, List.map_cons, List.flatten_cons, List.append_assoc]
    unfold bulks
    rw [bulk_made s _ (h s (by simp))]
    simp only
    rw [bulks_made ss r (fun x hx => h x (by simp [hx]))]
theorem nxt_made (ss : List B) (r : B) (hn : ss.length ≤ 256) (h : ∀ s ∈ ss, s.length ≤ 65536) : nxt (make ss ++ r) = some (some (ss, r)) := by
  unfold make
  rw [List.cons_append]
  unfold nxt
  simp only [if_true]
  unfold arr
  rw [List.append_assoc, show ([13, 10] ++ (ss.map mkBulk).flatten) ++ r = 13 :: 10 :: ((ss.map mkBulk).flatten ++ r) from by simp]
  rw [number_made (-1) 256 (ss.length : Int) _ (by omega) (by omega) (by omega) (by omega)]
  simp only
  rw [Int.toNat_natCast]
  exact bulks_made ss r h
/-- A request that is cut off is not whole, and not wrong. -/
theorem nxt_cut (ss : List B) (k : Nat) (hn : ss.length ≤ 256) (h : ∀ s ∈ ss, s.length ≤ 65536) (hk : k < (make ss).length) : nxt ((make ss).take k) = some none := by
  have hw := nxt_made ss [] hn h
  rw [List.append_nil] at hw
  have hsplit := List.take_append_drop k (make ss)
  rcases hp : nxt ((make ss).take k) with _ | _ | ⟨ws, r⟩
  · have := nxt_wrong ((make ss).drop k) hp
    rw [hsplit, hw] at this
    cases this
  · rfl
  · have := (nxt_whole ((make ss).drop k) hp).1
    rw [hsplit, hw] at this
    simp only [Option.some.injEq, Prod.mk.injEq] at this
    have h0 := congrArg List.length this.2
    simp at h0
    omega

/-! ### What is quoted is read as itself -/
def escq (q c : UInt8) : B := if q = 39 then (if c = 39 then [92, 39] else [c]) else (if c = 34 ∨ c = 92 then [92, c] else [c])
theorem escq_c {c : UInt8} (h : c = 34 ∨ c = 92) : escq 34 c = [92, c] := by unfold escq; rw [if_neg (by decide), if_pos h]
theorem escq_d {c : UInt8} (h : ¬ (c = 34 ∨ c = 92)) : escq 34 c = [c] := by unfold escq; rw [if_neg (by decide), if_neg h]
theorem escq_q : escq 39 39 = [92, 39] := rfl
theorem escq_s {c : UInt8} (h : ¬ c = 39) : escq 39 c = [c] := by unfold escq; rw [if_pos rfl, if_neg h]
def quote (q : UInt8) (w : B) : B := 32 :: q :: ((w.map (escq q)).flatten ++ [q])
theorem quoted_cons (q c : UInt8) (t : B) (h : c ≠ q) (hs : c ≠ 92) (ht : t ≠ []) : quoted q (c :: t) = (quoted q t).map (fun p => (c :: p.1, p.2)) := by
  cases t with
  | nil => exact absurd rfl ht
  | cons d t =>
    conv => lhs; unfold quoted
    rw [if_neg h, if_neg (fun e => hs e.1)]
theorem quoted_esc (q d : UInt8) (t : B) (h : q ≠ 92) (hd : q = 34 ∨ d = q) : quoted q (92 :: d :: t) = (quoted q t).map (fun p => (esc q d :: p.1, p.2)) := by
  conv => lhs; unfold quoted
  rw [if_neg (fun e => h e.symm), if_pos ⟨rfl, hd⟩]
theorem quoted_end (q : UInt8) (t : B) : quoted q (q :: t) = some ([], t) := by
  cases t with
  | nil => simp [quoted]
  | cons d t => simp [quoted]
theorem quoted_quote (q : UInt8) (r : B) (hq : q = 34 ∨ q = 39) : ∀ (w : B), (q = 39 → ∀ c ∈ w, c ≠ 92) → quoted q ((w.map (escq q)).flatten ++ (q :: r)) = some (w, r)
  | [], _ => by simp [quoted_end]
  | c :: w, h => by
    have ih := quoted_quote q r hq w (fun e x hx => h e x (by simp [hx]))
    simp only [List.map_cons, List.flatten_cons, List.append_assoc]
    have hne : (w.map (escq q)).flatten ++ (q :: r) ≠ [] := by simp
    rcases hq with rfl | rfl
    · by_cases hc : c = 34 ∨ c = 92
      · rw [escq_c hc]
        simp only [List.cons_append, List.nil_append]
        rw [quoted_esc 34 c _ (by decide) (.inl rfl), ih]
        rcases hc with rfl | rfl <;> rfl
      · rw [escq_d hc]
        simp only [List.cons_append, List.nil_append]
        rw [quoted_cons 34 c _ (fun e => hc (.inl e)) (fun e => hc (.inr e)) hne, ih]; rfl
    · by_cases hc : c = 39
      · subst hc
        rw [escq_q]
        simp only [List.cons_append, List.nil_append]
        rw [quoted_esc 39 39 _ (by decide) (.inr rfl), ih]; rfl
      · rw [escq_s hc]
        simp only [List.cons_append, List.nil_append]
        rw [quoted_cons 39 c _ hc (h rfl c (by simp)) hne, ih]; rfl
theorem word_quote (q : UInt8) (w r : B) (hq : q = 34 ∨ q = 39) (h : q = 39 → ∀ c ∈ w, c ≠ 92) (he : ends r = true) :
    word (q :: ((w.map (escq q)).flatten ++ (q :: r))) = some (w, r) := by
  unfold word
  have h1 : blank q = false := by rcases hq with rfl | rfl <;> rfl
  rw [h1, if_neg (by decide), if_neg (by rcases hq with rfl | rfl <;> decide), quoted_quote q r hq w h]
  simp only
  rw [if_pos he]
theorem wordsN_quotes (q : UInt8) (hq : q = 34 ∨ q = 39) : ∀ (ws : List B) (f : Nat), (q = 39 → ∀ w ∈ ws, ∀ c ∈ w, c ≠ 92) → 2 * ws.length ≤ f → wordsN f (ws.map (quote q)).flatten = some ws
  | [], f, _, _ => by cases f <;> simp [wordsN]
  | w :: ws, f, h, hf => by
    match f, hf with
    | f + 2, hf =>
      simp only [List.map_cons, List.flatten_cons]
      have e : quote q w ++ (ws.map (quote q)).flatten = 32 :: q :: ((w.map (escq q)).flatten ++ (q :: (ws.map (quote q)).flatten)) := by simp [quote]
      rw [e]
      have hb : blank q = false := by rcases hq with rfl | rfl <;> rfl
      have he : ends (ws.map (quote q)).flatten = true := by
        cases ws with
        | nil => rfl
        | cons a b => rfl
      rw [show wordsN (f + 2) (32 :: q :: ((w.map (escq q)).flatten ++ (q :: (ws.map (quote q)).flatten))) = wordsN (f + 1) (q :: ((w.map (escq q)).flatten ++ (q :: (ws.map (quote q)).flatten))) from rfl]
      conv => lhs; unfold wordsN
      rw [hb, if_neg (by decide), word_quote q w _ hq (fun e => h e w (by simp)) he]
      simp only
      rw [wordsN_quotes q hq ws f (fun e x hx => h e x (by simp [hx])) (by simp at hf; omega)]
      rfl
theorem quotes_length (q : UInt8) : ∀ ws : List B, 2 * ws.length ≤ (ws.map (quote q)).flatten.length
  | [] => by simp
  | w :: ws => by
    have := quotes_length q ws
    simp only [List.map_cons, List.flatten_cons, List.length_append, List.length_cons, quote] at this ⊢
    omega
theorem words_quotes (q : UInt8) (hq : q = 34 ∨ q = 39) (ws : List B) (h : q = 39 → ∀ w ∈ ws, ∀ c ∈ w, c ≠ 92) (hl : ws.length ≤ 256) : words (ws.map (quote q)).flatten = some ws := by
  unfold words
  rw [wordsN_quotes q hq ws _ h (quotes_length q ws)]
  simp only
  rw [if_neg (by omega)]
end Go.Proofs.Ytjdnpgdedbegfaa.Rq
