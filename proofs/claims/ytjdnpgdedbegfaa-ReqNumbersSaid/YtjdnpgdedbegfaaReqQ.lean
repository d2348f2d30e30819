/- Plain: requests that are read stay read, whatever comes behind; requests that are made are read again. No program in sight. -/
import Derived.Test.YtjdnpgdedbegfaaReqP
namespace Go.Proofs.Ytjdnpgdedbegfaa.Rq
set_option linter.unusedVariables false

theorem prs_len {l : B} {n : Int} (h : Num.prs l = some n) : 1 ≤ l.length ∧ l.length ≤ 21 := by
  have := Num.fmt_of_prs h
  rw [← this]
  exact Num.fmt_length n

theorem crlf_append : ∀ {l : B} {n : Nat} (m : B), crlf l = some n → crlf (l ++ m) = some n
  | [], n, m, h => by simp [crlf] at h
  | c :: t, n, m, h => by
    rw [List.cons_append]
    unfold crlf at h ⊢
    split at h
    · rename_i hc
      rw [if_pos]
      · exact h
      · refine ⟨hc.1, ?_⟩
        cases t with
        | nil => simp at hc
        | cons d t' => simpa using hc.2
    · rename_i hc
      rcases hx : crlf t with _ | k
      · rw [hx] at h; simp at h
      · rw [hx] at h
        rw [if_neg]
        · rw [crlf_append m hx]; exact h
        · rintro ⟨h1, h2⟩
          apply hc
          refine ⟨h1, ?_⟩
          cases t with
          | nil => simp [crlf] at hx
          | cons d t' => simpa using h2
theorem crlf_lt : ∀ {l : B} {n : Nat}, crlf l = some n → n + 2 ≤ l.length
  | [], n, h => by simp [crlf] at h
  | c :: t, n, h => by
    unfold crlf at h
    split at h
    · rename_i hc
      injection h with h
      subst h
      cases t with
      | nil => simp at hc
      | cons d t' => simp
    · rcases hx : crlf t with _ | k
      · rw [hx] at h; simp at h
      · rw [hx] at h
        simp at h
        have := crlf_lt hx
        simp; omega
theorem crlf_late : ∀ {l : B} {n : Nat} (m : B), crlf l = none → crlf (l ++ m) = some n → l.length ≤ n + 1
  | [], n, m, _, _ => by simp
  | c :: t, n, m, h, h' => by
    rw [List.cons_append] at h'
    unfold crlf at h h'
    split at h
    · cases h
    · rename_i hc
      have hx : crlf t = none := by
        rcases hx : crlf t with _ | k
        · rfl
        · rw [hx] at h; simp at h
      split at h'
      · rename_i hc'
        injection h' with h'
        subst h'
        cases t with
        | nil => simp
        | cons d t' => exact absurd ⟨hc'.1, by simpa using hc'.2⟩ hc
      · rcases hy : crlf (t ++ m) with _ | k
        · rw [hy] at h'; simp at h'
        · rw [hy] at h'
          simp at h'
          have := crlf_late m hx hy
          simp; omega
/-- The line that ends at its first 13 10. -/
theorem crlf_line : ∀ (a r : B), (∀ c ∈ a, c ≠ 13) → crlf (a ++ (13 :: 10 :: r)) = some a.length
  | [], r, _ => by simp [crlf]
  | c :: t, r, h => by
    rw [List.cons_append]
    unfold crlf
    rw [if_neg (by intro hc; exact h c (by simp) hc.1), crlf_line t r (fun x hx => h x (by simp [hx]))]
    simp

theorem number_whole {a b : Int} {l : B} {x : Int} {r : B} (m : B) (h : number a b l = some (some (x, r))) : number a b (l ++ m) = some (some (x, r ++ m)) ∧ r.length + 2 ≤ l.length := by
  unfold number at h
  rcases hc : crlf l with _ | n
  · rw [hc] at h; simp only at h; split at h <;> cases h
  · rw [hc] at h
    simp only at h
    split at h
    · cases h
    · rename_i h32
      rcases hp : Num.prs (l.take n) with _ | y
      · rw [hp] at h; cases h
      · rw [hp] at h
        simp only at h
        split at h
        · cases h
        · rename_i hr
          have hlt := crlf_lt hc
          injection h with h; injection h with h; injection h with h1 h2
          subst h1; subst h2
          refine ⟨?_, by rw [List.length_drop]; omega⟩
          unfold number
          rw [crlf_append m hc]
          simp only
          rw [if_neg h32, List.take_append_of_le_length (by omega), hp]
          simp only
          rw [if_neg hr, List.drop_append_of_le_length (by omega)]
theorem number_wrong {a b : Int} {l : B} (m : B) (h : number a b l = none) : number a b (l ++ m) = none := by
  unfold number at h
  rcases hc : crlf l with _ | n
  · rw [hc] at h
    simp only at h
    split at h
    · rename_i h32
      unfold number
      rcases hc2 : crlf (l ++ m) with _ | k
      · simp only
        rw [if_pos (by rw [List.length_append]; omega)]
      · simp only
        have hk := crlf_late m hc hc2
        by_cases h33 : 32 < k
        · rw [if_pos h33]
        · rw [if_neg h33]
          rcases hp : Num.prs ((l ++ m).take k) with _ | y
          · rfl
          · have := prs_len hp
            have hl2 := crlf_lt hc2
            rw [List.length_take] at this
            omega
    · cases h
  · rw [hc] at h
    simp only at h
    have hlt := crlf_lt hc
    unfold number
    rw [crlf_append m hc]
    simp only
    split at h
    · rename_i h32
      rw [if_pos h32]
    · rename_i h32
      rw [if_neg h32, List.take_append_of_le_length (by omega)]
      rcases hp : Num.prs (l.take n) with _ | y
      · rfl
      · rw [hp] at h
        simp only at h ⊢
        split at h
        · rename_i hr
          rw [if_pos hr]
        · cases h

theorem bulk_whole {l : B} {s r : B} (m : B) (h : bulk l = some (some (s, r))) : bulk (l ++ m) = some (some (s, r ++ m)) ∧ r.length < l.length := by
  cases l with
  | nil => simp [bulk] at h
  | cons c t =>
    unfold bulk at h
    simp only at h
    split at h
    · cases h
    · rename_i h36
      rcases hn : number 0 65536 t with _ | _ | ⟨x, r1⟩
      · rw [hn] at h; cases h
      · rw [hn] at h; simp at h
      · rw [hn] at h
        simp only at h
        obtain ⟨hw, hl⟩ := number_whole m hn
        split at h
        · simp at h
        · rename_i hlen
          split at h
          · rename_i hend
            injection h with h; injection h with h; injection h with h1 h2
            subst h1; subst h2
            refine ⟨?_, by simp; omega⟩
            rw [List.cons_append]
            unfold bulk
            simp only
            rw [if_neg h36, hw]
            simp only
            rw [if_neg (by rw [List.length_append]; omega), List.drop_append_of_le_length (by omega), List.take_append_of_le_length (by rw [List.length_drop]; omega), if_pos hend, List.take_append_of_le_length (by omega), List.drop_append_of_le_length (by omega)]
          · cases h
theorem bulk_wrong {l : B} (m : B) (h : bulk l = none) : bulk (l ++ m) = none := by
  cases l with
  | nil => simp [bulk] at h
  | cons c t =>
    rw [List.cons_append]
    unfold bulk at h ⊢
    simp only at h ⊢
    split at h
    · rename_i h36
      rw [if_pos h36]
    · rename_i h36
      rw [if_neg h36]
      rcases hn : number 0 65536 t with _ | _ | ⟨x, r1⟩
      · rw [number_wrong m hn]
      · rw [hn] at h; simp at h
      · rw [hn] at h
        simp only at h
        obtain ⟨hw, hl⟩ := number_whole m hn
        rw [hw]
        simp only
        split at h
        · simp at h
        · rename_i hlen
          split at h
          · simp at h
          · rename_i hend
            rw [if_neg (by rw [List.length_append]; omega), List.drop_append_of_le_length (by omega), List.take_append_of_le_length (by rw [List.length_drop]; omega), if_neg hend]

theorem bulks_whole : ∀ (n : Nat) {l : B} {ss : List B} {r : B} (m : B), bulks n l = some (some (ss, r)) → bulks n (l ++ m) = some (some (ss, r ++ m)) ∧ r.length + n ≤ l.length
  | 0, l, ss, r, m, h => by
    simp only [bulks, Option.some.injEq, Prod.mk.injEq] at h
    obtain ⟨rfl, rfl⟩ := h
    simp [bulks]
  | n + 1, l, ss, r, m, h => by
    unfold bulks at h
    rcases hb : bulk l with _ | _ | ⟨s, r1⟩
    · rw [hb] at h; cases h
    · rw [hb] at h; simp at h
    · rw [hb] at h
      simp only at h
      obtain ⟨hw, hl⟩ := bulk_whole m hb
      rcases hbs : bulks n r1 with _ | _ | ⟨ss1, r2⟩
      · rw [hbs] at h; cases h
      · rw [hbs] at h; simp at h
      · rw [hbs] at h
        simp only [Option.some.injEq, Prod.mk.injEq] at h
        obtain ⟨rfl, rfl⟩ := h
        obtain ⟨hw2, hl2⟩ := bulks_whole n m hbs
        refine ⟨?_, by omega⟩
        unfold bulks
        rw [hw]
        simp only
        rw [hw2]
theorem bulks_wrong : ∀ (n : Nat) {l : B} (m : B), bulks n l = none → bulks n (l ++ m) = none
  | 0, l, m, h => by simp [bulks] at h
  | n + 1, l, m, h => by
    unfold bulks at h ⊢
    rcases hb : bulk l with _ | _ | ⟨s, r1⟩
    · rw [bulk_wrong m hb]
    · rw [hb] at h; simp at h
    · rw [hb] at h
      simp only at h
      obtain ⟨hw, hl⟩ := bulk_whole m hb
      rw [hw]
      simp only
      rcases hbs : bulks n r1 with _ | _ | ⟨ss1, r2⟩
      · rw [bulks_wrong n m hbs]
      · rw [hbs] at h; simp at h
      · rw [hbs] at h; simp at h
theorem arr_whole {l : B} {ss : List B} {r : B} (m : B) (h : arr l = some (some (ss, r))) : arr (l ++ m) = some (some (ss, r ++ m)) ∧ r.length ≤ l.length := by
  unfold arr at h
  rcases hn : number (-1) 256 l with _ | _ | ⟨x, r1⟩
  · rw [hn] at h; cases h
  · rw [hn] at h; simp at h
  · rw [hn] at h
    simp only at h
    obtain ⟨hw, hl⟩ := number_whole m hn
    obtain ⟨hw2, hl2⟩ := bulks_whole _ m h
    refine ⟨?_, by omega⟩
    unfold arr
    rw [hw]
    exact hw2
theorem arr_wrong {l : B} (m : B) (h : arr l = none) : arr (l ++ m) = none := by
  unfold arr at h ⊢
  rcases hn : number (-1) 256 l with _ | _ | ⟨x, r1⟩
  · rw [number_wrong m hn]
  · rw [hn] at h; simp at h
  · rw [hn] at h
    rw [(number_whole m hn).1]
    exact bulks_wrong _ m h

theorem idx_append : ∀ {c : UInt8} {l : B} {n : Nat} (m : B), idx c l = some n → idx c (l ++ m) = some n
  | c, [], n, m, h => by simp [idx] at h
  | c, d :: t, n, m, h => by
    rw [List.cons_append]
    unfold idx at h ⊢
    split at h
    · rename_i hc; rw [if_pos hc]; exact h
    · rename_i hc
      rw [if_neg hc]
      rcases hx : idx c t with _ | k
      · rw [hx] at h; simp at h
      · rw [hx] at h; rw [idx_append m hx]; exact h
theorem idx_lt : ∀ {c : UInt8} {l : B} {n : Nat}, idx c l = some n → n < l.length
  | c, [], n, h => by simp [idx] at h
  | c, d :: t, n, h => by
    unfold idx at h
    split at h
    · injection h with h; subst h; simp
    · rcases hx : idx c t with _ | k
      · rw [hx] at h; simp at h
      · rw [hx] at h
        simp at h
        have := idx_lt hx
        simp; omega
theorem idx_late : ∀ {c : UInt8} {l : B} {n : Nat} (m : B), idx c l = none → idx c (l ++ m) = some n → l.length ≤ n
  | c, [], n, m, _, _ => by simp
  | c, d :: t, n, m, h, h' => by
    rw [List.cons_append] at h'
    unfold idx at h h'
    split at h
    · cases h
    · rename_i hc
      rw [if_neg hc] at h'
      rcases hy : idx c (t ++ m) with _ | k
      · rw [hy] at h'; simp at h'
      · rw [hy] at h'
        simp at h'
        have hx : idx c t = none := by
          rcases hx : idx c t with _ | k
          · rfl
          · rw [hx] at h; simp at h
        have := idx_late m hx hy
        simp; omega
theorem inl_whole {l : B} {ss : List B} {r : B} (m : B) (h : inl l = some (some (ss, r))) : inl (l ++ m) = some (some (ss, r ++ m)) ∧ r.length < l.length := by
  unfold inl at h
  rcases hi : idx 10 l with _ | n
  · rw [hi] at h; simp only at h; split at h <;> cases h
  · rw [hi] at h
    simp only at h
    split at h
    · cases h
    · rename_i h40
      rcases hw : words (chop (l.take n)) with _ | ws
      · rw [hw] at h; cases h
      · rw [hw] at h
        simp only [Option.some.injEq, Prod.mk.injEq] at h
        obtain ⟨rfl, rfl⟩ := h
        have hlt := idx_lt hi
        refine ⟨?_, by rw [List.length_drop]; omega⟩
        unfold inl
        rw [idx_append m hi]
        simp only
        rw [if_neg h40, List.take_append_of_le_length (by omega), hw]
        simp only
        rw [List.drop_append_of_le_length (by omega)]
theorem inl_wrong {l : B} (m : B) (h : inl l = none) : inl (l ++ m) = none := by
  unfold inl at h
  rcases hi : idx 10 l with _ | n
  · rw [hi] at h
    simp only at h
    split at h
    · rename_i h40
      unfold inl
      rcases hi2 : idx 10 (l ++ m) with _ | k
      · simp only
        rw [if_pos (by rw [List.length_append]; omega)]
      · simp only
        have := idx_late m hi hi2
        rw [if_pos (by omega)]
    · cases h
  · rw [hi] at h
    simp only at h
    have hlt := idx_lt hi
    unfold inl
    rw [idx_append m hi]
    simp only
    split at h
    · rename_i h40; rw [if_pos h40]
    · rename_i h40
      rw [if_neg h40, List.take_append_of_le_length (by omega)]
      rcases hw : words (chop (l.take n)) with _ | ws
      · rfl
      · rw [hw] at h; simp at h

/-- A request that is read stays read, and takes just its bytes. -/
theorem nxt_whole {l : B} {ss : List B} {r : B} (m : B) (h : nxt l = some (some (ss, r))) : nxt (l ++ m) = some (some (ss, r ++ m)) ∧ r.length < l.length := by
  cases l with
  | nil => simp [nxt] at h
  | cons c t =>
    rw [List.cons_append]
    unfold nxt at h ⊢
    simp only at h ⊢
    split at h
    · rename_i hc
      rw [if_pos hc]
      obtain ⟨h1, h2⟩ := arr_whole m h
      exact ⟨h1, by simp; omega⟩
    · rename_i hc
      rw [if_neg hc]
      have := inl_whole m h
      rw [List.cons_append] at this
      exact this
theorem nxt_wrong {l : B} (m : B) (h : nxt l = none) : nxt (l ++ m) = none := by
  cases l with
  | nil => simp [nxt] at h
  | cons c t =>
    rw [List.cons_append]
    unfold nxt at h ⊢
    simp only at h ⊢
    split at h
    · rename_i hc
      rw [if_pos hc]
      exact arr_wrong m h
    · rename_i hc
      rw [if_neg hc]
      have := inl_wrong m h
      rw [List.cons_append] at this
      exact this
end Go.Proofs.Ytjdnpgdedbegfaa.Rq
