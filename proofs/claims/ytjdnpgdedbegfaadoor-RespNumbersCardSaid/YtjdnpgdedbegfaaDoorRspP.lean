/- Replies as bytes, in plain Lean: what is read; what is written is read again; what is cut off is not read. -/
import Derived.Test.YtjdnpgdedbegfaaDoorRspC
namespace Go.Proofs.YtjdnpgdedbegfaaDoor
set_option linter.unusedVariables false

def deL (x : List UInt8 × List UInt8) (c : UInt8) : List UInt8 × List UInt8 := (c :: x.1, x.2)
namespace Rsp
/-- A line, and what is behind its end. -/
def lnl : List UInt8 → Option (List UInt8 × List UInt8)
  | [] => none
  | c :: t => if c = 10 then none else if c = 13 then (if t.head? = some 10 then some ([], t.tail) else none) else (lnl t).map (fun p => (c :: p.1, p.2))
def reps (f : List UInt8 → Option (Rep × List UInt8)) : Nat → List UInt8 → Option (List Rep × List UInt8)
  | 0, b => some ([], b)
  | m + 1, b => match f b with
    | none => none
    | some (r, t) => match reps f m t with
      | none => none
      | some (l, u) => some (r :: l, u)
def bulk (n : Int) (t : List UInt8) : Option (Rep × List UInt8) :=
  if n < 0 ∨ (t.length : Int) - 2 < n then none else if (t.drop n.toNat).take 2 = [13, 10] then some (.mk 4 (t.take n.toNat) 0 [], t.drop (n.toNat + 2)) else none
def many (k : Int) (f : List UInt8 → Option (Rep × List UInt8)) (L : Nat) (n : Int) (m : Nat) (t : List UInt8) : Option (Rep × List UInt8) :=
  if n < 0 ∨ (L : Int) < n then none else (reps f m t).map fun p => (.mk k [] 0 p.1, p.2)
/-- What stands behind a number. -/
def cnt (f : List UInt8 → Option (Rep × List UInt8)) (L : Nat) (c : UInt8) (n : Int) (t : List UInt8) : Option (Rep × List UInt8) :=
  if c = 58 then some (.mk 3 [] n [], t)
  else if c = 36 then if n = -1 then some (.mk 5 [] 0 [], t) else bulk n t
  else if c = 42 then if n = -1 then some (.mk 6 [] 0 [], t) else many 7 f L n n.toNat t
  else if c = 37 then many 8 f L n (2 * n.toNat) t
  else if c = 126 then many 9 f L n n.toNat t
  else none
/-- What a line says. -/
def one (f : List UInt8 → Option (Rep × List UInt8)) (L : Nat) (c : UInt8) (body t : List UInt8) : Option (Rep × List UInt8) :=
  if c = 43 then some (.mk 1 body 0 [], t)
  else if c = 45 then some (.mk 2 body 0 [], t)
  else if c = 95 then if body = [] then some (.mk 5 [] 0 [], t) else none
  else match Num.prs body with
    | none => none
    | some n => cnt f L c n t
/-- A reply within so many levels, of so many bytes. -/
def rd : Nat → Nat → List UInt8 → Option (Rep × List UInt8)
  | 0, L, b => none
  | d + 1, L, b => match lnl b with
    | none => none
    | some (s, t) => match s with
      | [] => none
      | c :: body => one (rd d L) L c body t

theorem lnl_more : ∀ {b s t : List UInt8} (x : List UInt8), lnl b = some (s, t) → lnl (b ++ x) = some (s, t ++ x)
  | [], s, t, x, h => by cases h
  | c :: b, s, t, x, h => by
    unfold lnl at h
    rw [List.cons_append]; unfold lnl
    split at h
    · cases h
    · rename_i h1
      rw [if_neg h1]
      split at h
      · rename_i h2
        rw [if_pos h2]
        split at h
        · rename_i h3
          cases b with
          | nil => cases h3
          | cons a b =>
            simp only [List.head?_cons, List.tail_cons] at h3 h
            injection h with h; injection h with h4 h5
            subst h4; subst h5
            simp [h3]
        · cases h
      · rename_i h2
        rw [if_neg h2]
        cases hb : lnl b with
        | none => rw [hb] at h; cases h
        | some p =>
          rw [hb] at h
          obtain ⟨s', t'⟩ := p
          rw [lnl_more x hb]
          simp only [Option.map_some, Option.some.injEq, Prod.mk.injEq] at h ⊢
          obtain ⟨rfl, rfl⟩ := h
          exact ⟨rfl, rfl⟩
theorem lnl_suf : ∀ {b s t : List UInt8}, lnl b = some (s, t) → ∃ p, b = s ++ p ++ t ∧ p.length = 2
  | [], s, t, h => by cases h
  | c :: b, s, t, h => by
    unfold lnl at h
    split at h
    · cases h
    · split at h
      · rename_i h2
        split at h
        · rename_i h3
          cases b with
          | nil => cases h3
          | cons a b =>
            injection h with h; injection h with h4 h5
            subst h4; subst h5
            exact ⟨[c, a], rfl, rfl⟩
        · cases h
      · cases hb : lnl b with
        | none => rw [hb] at h; cases h
        | some p =>
          rw [hb] at h
          obtain ⟨s', t'⟩ := p
          obtain ⟨p, h1, h2⟩ := lnl_suf hb
          simp only [Option.map_some, Option.some.injEq, Prod.mk.injEq] at h
          obtain ⟨rfl, rfl⟩ := h
          exact ⟨p, by rw [h1]; rfl, h2⟩
theorem reps_more {f g : List UInt8 → Option (Rep × List UInt8)} (x : List UInt8) (hf : ∀ b r t, f b = some (r, t) → g (b ++ x) = some (r, t ++ x)) : ∀ (m : Nat) {b t : List UInt8} {l : List Rep}, reps f m b = some (l, t) → reps g m (b ++ x) = some (l, t ++ x)
  | 0, b, t, l, h => by
    unfold reps at h ⊢
    injection h with h; injection h with h1 h2
    subst h1; subst h2; rfl
  | m + 1, b, t, l, h => by
    unfold reps at h ⊢
    cases hb : f b with
    | none => rw [hb] at h; cases h
    | some p =>
      obtain ⟨r, u⟩ := p
      rw [hb] at h
      rw [hf _ _ _ hb]
      simp only at h ⊢
      cases hm : reps f m u with
      | none => rw [hm] at h; cases h
      | some q =>
        obtain ⟨l', v⟩ := q
        rw [hm] at h
        rw [reps_more x hf m hm]
        simp only [Option.some.injEq, Prod.mk.injEq] at h ⊢
        exact ⟨h.1, by rw [h.2]⟩
theorem reps_len {f : List UInt8 → Option (Rep × List UInt8)} (hf : ∀ b r t, f b = some (r, t) → t.length ≤ b.length) : ∀ (m : Nat) {b t : List UInt8} {l : List Rep}, reps f m b = some (l, t) → l.length = m ∧ t.length ≤ b.length
  | 0, b, t, l, h => by
    unfold reps at h
    injection h with h; injection h with h1 h2
    subst h1; subst h2; exact ⟨rfl, Nat.le_refl _⟩
  | m + 1, b, t, l, h => by
    unfold reps at h
    cases hb : f b with
    | none => rw [hb] at h; cases h
    | some p =>
      obtain ⟨r, u⟩ := p
      rw [hb] at h
      simp only at h
      cases hm : reps f m u with
      | none => rw [hm] at h; cases h
      | some q =>
        obtain ⟨l', v⟩ := q
        rw [hm] at h
        have := reps_len hf m hm
        have := hf _ _ _ hb
        simp only [Option.some.injEq, Prod.mk.injEq] at h
        obtain ⟨rfl, rfl⟩ := h
        simp only [List.length_cons]; omega
theorem bulk_more {n : Int} {t u : List UInt8} {r : Rep} (x : List UInt8) (h : bulk n t = some (r, u)) : bulk n (t ++ x) = some (r, u ++ x) := by
  unfold bulk at h ⊢
  split at h
  · cases h
  · rename_i h1
    split at h
    · rename_i h2
      rw [if_neg (by simp only [List.length_append]; omega)]
      injection h with h; injection h with h3 h4
      subst h3; subst h4
      have e1 : n.toNat + 2 ≤ t.length := by omega
      have e2 : (t ++ x).drop n.toNat = t.drop n.toNat ++ x := by rw [List.drop_append_of_le_length (by omega)]
      have e3 : (t.drop n.toNat ++ x).take 2 = (t.drop n.toNat).take 2 := by rw [List.take_append_of_le_length (by simp; omega)]
      have e4 : (t ++ x).take n.toNat = t.take n.toNat := by rw [List.take_append_of_le_length (by omega)]
      have e5 : (t ++ x).drop (n.toNat + 2) = t.drop (n.toNat + 2) ++ x := by rw [List.drop_append_of_le_length e1]
      rw [e2, e3, if_pos h2, e4, e5]
    · cases h
theorem many_more {k n : Int} {f g : List UInt8 → Option (Rep × List UInt8)} {L L' m : Nat} {t u : List UInt8} {r : Rep} (x : List UInt8) (hf : ∀ b r t, f b = some (r, t) → g (b ++ x) = some (r, t ++ x)) (hL : L ≤ L') (h : many k f L n m t = some (r, u)) : many k g L' n m (t ++ x) = some (r, u ++ x) := by
  unfold many at h ⊢
  split at h
  · cases h
  · rw [if_neg (by omega)]
    cases hm : reps f m t with
    | none => rw [hm] at h; cases h
    | some p =>
      obtain ⟨l, v⟩ := p
      rw [hm] at h
      rw [reps_more x hf m hm]
      simp only [Option.map_some, Option.some.injEq, Prod.mk.injEq] at h ⊢
      exact ⟨h.1, by rw [h.2]⟩
theorem cnt_more {c : UInt8} {n : Int} {f g : List UInt8 → Option (Rep × List UInt8)} {L L' : Nat} {t u : List UInt8} {r : Rep} (x : List UInt8) (hf : ∀ b r t, f b = some (r, t) → g (b ++ x) = some (r, t ++ x)) (hL : L ≤ L') (h : cnt f L c n t = some (r, u)) : cnt g L' c n (t ++ x) = some (r, u ++ x) := by
  unfold cnt at h ⊢
  by_cases h1 : c = 58
  · rw [if_pos h1] at h ⊢
    injection h with h; injection h with h3 h4
    subst h3; subst h4; rfl
  · rw [if_neg h1] at h ⊢
    by_cases h2 : c = 36
    · rw [if_pos h2] at h ⊢
      by_cases h3 : n = -1
      · rw [if_pos h3] at h ⊢
        injection h with h; injection h with h4 h5
        subst h4; subst h5; rfl
      · rw [if_neg h3] at h ⊢
        exact bulk_more x h
    · rw [if_neg h2] at h ⊢
      by_cases h3 : c = 42
      · rw [if_pos h3] at h ⊢
        by_cases h4 : n = -1
        · rw [if_pos h4] at h ⊢
          injection h with h; injection h with h5 h6
          subst h5; subst h6; rfl
        · rw [if_neg h4] at h ⊢
          exact many_more x hf hL h
      · rw [if_neg h3] at h ⊢
        by_cases h4 : c = 37
        · rw [if_pos h4] at h ⊢
          exact many_more x hf hL h
        · rw [if_neg h4] at h ⊢
          by_cases h5 : c = 126
          · rw [if_pos h5] at h ⊢
            exact many_more x hf hL h
          · rw [if_neg h5] at h; cases h
theorem one_more {c : UInt8} {f g : List UInt8 → Option (Rep × List UInt8)} {L L' : Nat} {body t u : List UInt8} {r : Rep} (x : List UInt8) (hf : ∀ b r t, f b = some (r, t) → g (b ++ x) = some (r, t ++ x)) (hL : L ≤ L') (h : one f L c body t = some (r, u)) : one g L' c body (t ++ x) = some (r, u ++ x) := by
  unfold one at h ⊢
  by_cases h1 : c = 43
  · rw [if_pos h1] at h ⊢
    injection h with h; injection h with h3 h4
    subst h3; subst h4; rfl
  · rw [if_neg h1] at h ⊢
    by_cases h2 : c = 45
    · rw [if_pos h2] at h ⊢
      injection h with h; injection h with h3 h4
      subst h3; subst h4; rfl
    · rw [if_neg h2] at h ⊢
      by_cases h3 : c = 95
      · rw [if_pos h3] at h ⊢
        by_cases h4 : body = []
        · rw [if_pos h4] at h ⊢
          injection h with h; injection h with h5 h6
          subst h5; subst h6; rfl
        · rw [if_neg h4] at h; cases h
      · rw [if_neg h3] at h ⊢
        cases hp : Num.prs body with
        | none => rw [hp] at h; cases h
        | some n => rw [hp] at h; exact cnt_more x hf hL h
theorem rd_more : ∀ (d : Nat) {L L' : Nat} {b t : List UInt8} {r : Rep} (x : List UInt8), L ≤ L' → rd d L b = some (r, t) → rd d L' (b ++ x) = some (r, t ++ x)
  | 0, L, L', b, t, r, x, hL, h => by cases h
  | d + 1, L, L', b, t, r, x, hL, h => by
    unfold rd at h ⊢
    cases hb : lnl b with
    | none => rw [hb] at h; cases h
    | some p =>
      obtain ⟨s, u⟩ := p
      rw [hb] at h
      rw [lnl_more x hb]
      cases s with
      | nil => cases h
      | cons c body => exact one_more x (fun b r t h => rd_more d x hL h) hL h

theorem many_suf {k n : Int} {f : List UInt8 → Option (Rep × List UInt8)} {L m : Nat} {t u : List UInt8} {r : Rep} (hf : ∀ b r t, f b = some (r, t) → t.length ≤ b.length) (h : many k f L n m t = some (r, u)) : u.length ≤ t.length := by
  unfold many at h
  split at h
  · cases h
  · cases hm : reps f m t with
    | none => rw [hm] at h; cases h
    | some p =>
      obtain ⟨l, v⟩ := p
      rw [hm] at h
      have := reps_len hf m hm
      simp only [Option.map_some, Option.some.injEq, Prod.mk.injEq] at h
      rw [← h.2]; exact this.2
theorem one_suf {c : UInt8} {f : List UInt8 → Option (Rep × List UInt8)} {L : Nat} {body t u : List UInt8} {r : Rep} (hf : ∀ b r t, f b = some (r, t) → t.length ≤ b.length) (h : one f L c body t = some (r, u)) : u.length ≤ t.length := by
  have hs : ∀ {a b : Rep} {v : List UInt8}, some (a, t) = some (b, v) → v.length ≤ t.length := by
    intro a b v h; injection h with h; injection h with h1 h2; rw [h2]; exact Nat.le_refl _
  unfold one at h
  by_cases h1 : c = 43
  · rw [if_pos h1] at h; exact hs h
  · rw [if_neg h1] at h
    by_cases h2 : c = 45
    · rw [if_pos h2] at h; exact hs h
    · rw [if_neg h2] at h
      by_cases h3 : c = 95
      · rw [if_pos h3] at h
        by_cases h4 : body = []
        · rw [if_pos h4] at h; exact hs h
        · rw [if_neg h4] at h; cases h
      · rw [if_neg h3] at h
        cases hp : Num.prs body with
        | none => rw [hp] at h; cases h
        | some n =>
          rw [hp] at h
          simp only [cnt] at h
          by_cases h4 : c = 58
          · rw [if_pos h4] at h; exact hs h
          · rw [if_neg h4] at h
            by_cases h5 : c = 36
            · rw [if_pos h5] at h
              by_cases h6 : n = -1
              · rw [if_pos h6] at h; exact hs h
              · rw [if_neg h6] at h
                unfold bulk at h
                split at h
                · cases h
                · split at h
                  · injection h with h; injection h with h7 h8
                    rw [← h8, List.length_drop]; omega
                  · cases h
            · rw [if_neg h5] at h
              by_cases h6 : c = 42
              · rw [if_pos h6] at h
                by_cases h7 : n = -1
                · rw [if_pos h7] at h; exact hs h
                · rw [if_neg h7] at h; exact many_suf hf h
              · rw [if_neg h6] at h
                by_cases h7 : c = 37
                · rw [if_pos h7] at h; exact many_suf hf h
                · rw [if_neg h7] at h
                  by_cases h8 : c = 126
                  · rw [if_pos h8] at h; exact many_suf hf h
                  · rw [if_neg h8] at h; cases h
theorem rd_suf : ∀ (d : Nat) {L : Nat} {b t : List UInt8} {r : Rep}, rd d L b = some (r, t) → t.length + 3 ≤ b.length
  | 0, L, b, t, r, h => by cases h
  | d + 1, L, b, t, r, h => by
    unfold rd at h
    cases hb : lnl b with
    | none => rw [hb] at h; cases h
    | some p =>
      obtain ⟨s, u⟩ := p
      rw [hb] at h
      obtain ⟨p, h1, h2⟩ := lnl_suf hb
      cases s with
      | nil => cases h
      | cons c body =>
        have h3 := one_suf (fun b r t h => by have := rd_suf d h; omega) h
        rw [h1]; simp only [List.length_append, List.length_cons]; omega

/-! what is written is read again -/
theorem lnl_line : ∀ (s t : List UInt8), (∀ c ∈ s, c ≠ 10 ∧ c ≠ 13) → lnl (s ++ 13 :: 10 :: t) = some (s, t)
  | [], t, h => by unfold lnl; simp
  | c :: s, t, h => by
    have hc := h c (by simp)
    rw [List.cons_append]; unfold lnl
    rw [if_neg hc.1, if_neg hc.2, lnl_line s t (fun c hc => h c (by simp [hc]))]
    rfl
theorem fmt_line (n : Int) : ∀ c ∈ Num.fmt n, c ≠ 10 ∧ c ≠ 13 := by
  have hd : ∀ m : Nat, ∀ c ∈ Num.uns m, c ≠ 10 ∧ c ≠ 13 := by
    intro m c hc
    have := Num.digs_uns m c hc
    constructor
    · rintro rfl; exact absurd this.1 (by decide)
    · rintro rfl; exact absurd this.1 (by decide)
  intro c hc
  unfold Num.fmt at hc
  split at hc
  · rcases List.mem_cons.1 hc with rfl | hc
    · decide
    · exact hd _ c hc
  · exact hd _ c hc
theorem lnl_num (k : UInt8) (n : Int) (t : List UInt8) (hk : k ≠ 10 ∧ k ≠ 13) : lnl (k :: Num.fmt n ++ [13, 10] ++ t) = some (k :: Num.fmt n, t) := by
  have := lnl_line (k :: Num.fmt n) t (by
    intro c hc
    rcases List.mem_cons.1 hc with rfl | hc
    · exact hk
    · exact fmt_line n c hc)
  simpa using this
theorem cln_line (s : List UInt8) : ∀ c ∈ cln s, c ≠ 10 ∧ c ≠ 13 := by
  intro c hc
  unfold cln ones at hc
  obtain ⟨a, ha, rfl⟩ := List.mem_map.1 hc
  obtain ⟨b, hb, rfl⟩ := List.mem_map.1 ha
  unfold Go.Proofs.YtjdnpgdedbegfaaDoor.one
  by_cases h1 : b = 13
  · rw [if_pos h1]; decide
  · rw [if_neg h1]
    by_cases h2 : b = 10
    · rw [if_pos h2]; decide
    · rw [if_neg h2]; exact ⟨h2, h1⟩
theorem cln_id (s : List UInt8) (h : ∀ c ∈ s, c ≠ 10 ∧ c ≠ 13) : cln s = s := by
  unfold cln ones
  rw [List.map_map]
  conv => rhs; rw [← List.map_id s]
  refine List.map_congr_left fun c hc => ?_
  have := h c hc
  simp [Go.Proofs.YtjdnpgdedbegfaaDoor.one, this.1, this.2]
theorem cln_cln (s : List UInt8) : cln (cln s) = cln s := cln_id _ (cln_line s)
end Rsp

mutual
/-- A reply as it is read from version 2. -/
def Rep.flat : Rep → Rep
  | .mk k s n l =>
    if k = 1 ∨ k = 2 then .mk k (cln s) 0 []
    else if k = 4 then .mk 4 s 0 []
    else if k = 3 then .mk 3 [] n []
    else if k = 6 then .mk 6 [] 0 []
    else if k = 7 ∨ k = 8 ∨ k = 9 then .mk 7 [] 0 (Rep.flats l)
    else .mk 5 [] 0 []
def Rep.flats : List Rep → List Rep
  | [] => []
  | r :: t => r.flat :: Rep.flats t
end
theorem flats_map : ∀ l : List Rep, Rep.flats l = l.map Rep.flat
  | [] => rfl
  | r :: t => by unfold Rep.flats; rw [flats_map t]; rfl
theorem norms_map : ∀ l : List Rep, Rep.norms l = l.map Rep.norm
  | [] => rfl
  | r :: t => by unfold Rep.norms; rw [norms_map t]; rfl
theorem encs_all (t : Bool) (l : List Rep) : encs t l.length l = (l.map (enc t)).flatten := by rw [encs_take, List.take_length]

theorem flat_mk (k : Int) (s : List UInt8) (n : Int) (l : List Rep) : Rep.flat (.mk k s n l) = if k = 1 ∨ k = 2 then .mk k (cln s) 0 []
    else if k = 4 then .mk 4 s 0 []
    else if k = 3 then .mk 3 [] n []
    else if k = 6 then .mk 6 [] 0 []
    else if k = 7 ∨ k = 8 ∨ k = 9 then .mk 7 [] 0 (Rep.flats l)
    else .mk 5 [] 0 [] := by rw [Rep.flat]
mutual
theorem flat_flat : ∀ r : Rep, r.flat.flat = r.flat
  | .mk k s n l => by
    rw [flat_mk]
    by_cases h1 : k = 1 ∨ k = 2
    · rw [if_pos h1, flat_mk, if_pos h1, Rsp.cln_cln]
    · rw [if_neg h1]
      by_cases h2 : k = 4
      · rw [if_pos h2, flat_mk]; simp
      · rw [if_neg h2]
        by_cases h3 : k = 3
        · rw [if_pos h3, flat_mk]; simp
        · rw [if_neg h3]
          by_cases h4 : k = 6
          · rw [if_pos h4, flat_mk]; simp
          · rw [if_neg h4]
            by_cases h5 : k = 7 ∨ k = 8 ∨ k = 9
            · rw [if_pos h5, flat_mk]; simp [flats_flats l]
            · rw [if_neg h5, flat_mk]; simp
theorem flats_flats : ∀ l : List Rep, Rep.flats (Rep.flats l) = Rep.flats l
  | [] => rfl
  | r :: t => by
    have h1 : Rep.flats (r :: t) = r.flat :: Rep.flats t := by rw [Rep.flats]
    have h2 : Rep.flats (r.flat :: Rep.flats t) = r.flat.flat :: Rep.flats (Rep.flats t) := by rw [Rep.flats]
    rw [h1, h2, flat_flat r, flats_flats t]
end
theorem flats_len (l : List Rep) : (Rep.flats l).length = l.length := by rw [flats_map, List.length_map]
mutual
theorem enc_flat : ∀ r : Rep, enc false r.flat = enc false r
  | .mk k s n l => by
    unfold Rep.flat
    by_cases h1 : k = 1 ∨ k = 2
    · rw [if_pos h1]; rcases h1 with rfl | rfl
      · unfold enc; simp [Rsp.cln_cln]
      · unfold enc; simp [Rsp.cln_cln]
    · rw [if_neg h1]
      by_cases h2 : k = 4
      · rw [if_pos h2, h2]; unfold enc; simp
      · rw [if_neg h2]
        by_cases h3 : k = 3
        · rw [if_pos h3, h3]; unfold enc; simp
        · rw [if_neg h3]
          by_cases h4 : k = 6
          · rw [if_pos h4, h4]; unfold enc; simp
          · rw [if_neg h4]
            by_cases h5 : k = 7 ∨ k = 8 ∨ k = 9
            · rw [if_pos h5]; unfold enc
              have e := encs_flat l l.length
              rw [flats_len]
              simp [h5, h2, h3, e, show ¬ k = 1 from fun h => h1 (.inl h), show ¬ k = 2 from fun h => h1 (.inr h)]
            · rw [if_neg h5]; unfold enc
              simp [h5, h2, h3, h4, show ¬ k = 1 from fun h => h1 (.inl h), show ¬ k = 2 from fun h => h1 (.inr h)]
theorem encs_flat : ∀ (l : List Rep) (m : Nat), encs false m (Rep.flats l) = encs false m l
  | [], m => rfl
  | r :: t, m => by unfold Rep.flats; unfold encs; rw [enc_flat r, encs_flat t]
end

/-- A reply that is read again: of so many levels. -/
def okR : Nat → Rep → Prop
  | 0, _ => False
  | d + 1, .mk k s n l => (k = 1 ∨ k = 2 ∨ k = 3 ∨ k = 4 ∨ k = 5 ∨ k = 7 ∨ k = 8 ∨ k = 9) ∧ fits n ∧ (k = 1 ∨ k = 2 → ∀ c ∈ s, c ≠ 10 ∧ c ≠ 13) ∧ (k = 8 → l.length % 2 = 0) ∧ (k = 7 ∨ k = 8 ∨ k = 9 → ∀ r ∈ l, okR d r)
/-- What is read: in version 3, in version 2. -/
def red (t : Bool) (r : Rep) : Rep := if t then r.norm else r.flat

theorem Rsp.fits_nat {n : Nat} (h : n ≤ 1048576) : -9223372036854775808 ≤ (n : Int) ∧ (n : Int) ≤ 9223372036854775807 := by omega
theorem Rsp.one_num {f : List UInt8 → Option (Rep × List UInt8)} {L : Nat} {c : UInt8} {n : Int} {t : List UInt8} (h1 : c ≠ 43) (h2 : c ≠ 45) (h3 : c ≠ 95) (hn : fits n) : Rsp.one f L c (Num.fmt n) t = Rsp.cnt f L c n t := by
  unfold Rsp.one
  rw [if_neg h1, if_neg h2, if_neg h3, Num.prs_fmt n hn.1 hn.2]
theorem Rsp.reps_enc {f : List UInt8 → Option (Rep × List UInt8)} (b : Bool) : ∀ (l : List Rep) (t : List UInt8), (∀ r ∈ l, ∀ t, f (enc b r ++ t) = some (red b r, t)) → Rsp.reps f l.length ((l.map (enc b)).flatten ++ t) = some (l.map (red b), t)
  | [], t, h => rfl
  | r :: l, t, h => by
    show Rsp.reps f (l.length + 1) _ = _
    unfold Rsp.reps
    simp only [List.map_cons, List.flatten_cons, List.append_assoc]
    rw [h r (by simp)]
    simp only []
    rw [Rsp.reps_enc b l t (fun r hr => h r (by simp [hr]))]
theorem enc_pos (b : Bool) (r : Rep) : 1 ≤ (enc b r).length := by
  obtain ⟨k, s, n, l⟩ := r
  unfold enc hdr
  repeat' split
  all_goals simp
theorem encs_pos (b : Bool) : ∀ l : List Rep, l.length ≤ ((l.map (enc b)).flatten).length
  | [] => Nat.le_refl _
  | r :: l => by
    have := encs_pos b l
    have := enc_pos b r
    simp only [List.map_cons, List.flatten_cons, List.length_append, List.length_cons]; omega
theorem mem_encs (b : Bool) {r : Rep} : ∀ {l : List Rep}, r ∈ l → (enc b r).length ≤ ((l.map (enc b)).flatten).length
  | a :: l, h => by
    simp only [List.map_cons, List.flatten_cons, List.length_append]
    rcases List.mem_cons.1 h with rfl | h
    · omega
    · have := mem_encs b h; omega
theorem hdr_line (c : UInt8) (n : Nat) (t : List UInt8) (hc : c ≠ 10 ∧ c ≠ 13) : Rsp.lnl (hdr c n ++ t) = some (c :: Num.fmt n, t) := Rsp.lnl_num c n t hc

set_option maxHeartbeats 1000000 in
/-- What is written is read again. -/
theorem rd_enc (b : Bool) : ∀ (d : Nat) (r : Rep) (L : Nat) (t : List UInt8), okR d r → (enc b r).length ≤ L → L ≤ 1048576 → Rsp.rd d L (enc b r ++ t) = some (red b r, t)
  | 0, r, L, t, h, hL, hm => by cases h
  | d + 1, .mk k s n l, L, t, h, hL, hm => by
    obtain ⟨hk, hn, hs, he, hl⟩ := h
    have hparts : k = 7 ∨ k = 8 ∨ k = 9 → (l.map (enc b)).flatten.length ≤ L → ∀ t, Rsp.reps (Rsp.rd d L) l.length ((l.map (enc b)).flatten ++ t) = some (l.map (red b), t) := by
      intro h7 hle t
      exact Rsp.reps_enc b l t (fun r hr t => rd_enc b d r L t (hl h7 r hr) (Nat.le_trans (mem_encs b hr) hle) hm)
    have hred : b = true → l.map (red b) = Rep.norms l := by intro hb; rw [norms_map]; subst hb; rfl
    have hred2 : b = false → l.map (red b) = Rep.flats l := by intro hb; rw [flats_map]; subst hb; rfl
    have hlen := encs_pos b l
    rcases hk with rfl | rfl | rfl | rfl | rfl | rfl | rfl | rfl
    · have e : enc b (.mk 1 s n l) = (43 :: cln s) ++ [13, 10] := by unfold enc; simp
      have hc := hs (.inl rfl)
      rw [e]; unfold Rsp.rd
      rw [show ((43 :: cln s) ++ [13, 10]) ++ t = (43 :: cln s) ++ 13 :: 10 :: t by simp, Rsp.lnl_line _ t (by
        intro c hcc
        rcases List.mem_cons.1 hcc with rfl | hcc
        · decide
        · exact Rsp.cln_line s c hcc)]
      simp only [Rsp.one]
      cases b with
      | false => simp [red, Rep.flat]
      | true => simp [red, Rep.norm, txt, prt, Rsp.cln_id s hc]
    · have e : enc b (.mk 2 s n l) = (45 :: cln s) ++ [13, 10] := by unfold enc; simp
      have hc := hs (.inr rfl)
      rw [e]; unfold Rsp.rd
      rw [show ((45 :: cln s) ++ [13, 10]) ++ t = (45 :: cln s) ++ 13 :: 10 :: t by simp, Rsp.lnl_line _ t (by
        intro c hcc
        rcases List.mem_cons.1 hcc with rfl | hcc
        · decide
        · exact Rsp.cln_line s c hcc)]
      simp only [Rsp.one]
      cases b with
      | false => simp [red, Rep.flat]
      | true => simp [red, Rep.norm, txt, prt, Rsp.cln_id s hc]
    · have e : enc b (.mk 3 s n l) = 58 :: Num.fmt n ++ [13, 10] := by unfold enc; simp
      rw [e]; unfold Rsp.rd
      rw [Rsp.lnl_num 58 n t (by decide)]
      simp only []
      rw [Rsp.one_num (by decide) (by decide) (by decide) hn]
      unfold Rsp.cnt
      cases b with
      | false => simp [red, Rep.flat]
      | true => simp [red, Rep.norm, txt, prt]
    · have e : enc b (.mk 4 s n l) = hdr 36 s.length ++ s ++ [13, 10] := by unfold enc; simp
      have hsl : s.length ≤ 1048576 := by rw [e] at hL; simp only [List.length_append] at hL; omega
      rw [e]; unfold Rsp.rd
      rw [show (hdr 36 s.length ++ s ++ [13, 10]) ++ t = hdr 36 s.length ++ (s ++ [13, 10] ++ t) by simp, hdr_line 36 _ _ (by decide)]
      simp only []
      rw [Rsp.one_num (by decide) (by decide) (by decide) (Rsp.fits_nat hsl)]
      unfold Rsp.cnt
      rw [if_neg (by decide), if_pos rfl, if_neg (by omega)]
      unfold Rsp.bulk
      rw [if_neg (by simp only [List.length_append, List.length_cons, List.length_nil]; omega)]
      have e1 : ((s ++ [13, 10] ++ t).drop (s.length : Int).toNat).take 2 = [13, 10] := by simp
      have e2 : (s ++ [13, 10] ++ t).take (s.length : Int).toNat = s := by simp
      have e3 : (s ++ [13, 10] ++ t).drop ((s.length : Int).toNat + 2) = t := by simp
      rw [if_pos e1, e2, e3]
      cases b with
      | false => simp [red, Rep.flat]
      | true => simp [red, Rep.norm, txt, prt]
    · cases b with
      | false =>
        have e : enc false (.mk 5 s n l) = [36, 45, 49, 13, 10] := by unfold enc; simp
        rw [e]; unfold Rsp.rd
        have e0 : Num.fmt (-1) = [45, 49] := by decide
        have e1 := Rsp.lnl_num 36 (-1) t (by decide)
        rw [e0] at e1
        rw [show ([36, 45, 49, 13, 10] : List UInt8) ++ t = 36 :: [45, 49] ++ [13, 10] ++ t by simp, e1]
        simp only []
        rw [← e0, Rsp.one_num (by decide) (by decide) (by decide) (by unfold fits; omega)]
        unfold Rsp.cnt
        simp [red, Rep.flat]
      | true =>
        have e : enc true (.mk 5 s n l) = [95] ++ [13, 10] := by unfold enc; simp
        rw [e]; unfold Rsp.rd
        rw [show (([95] : List UInt8) ++ [13, 10]) ++ t = [95] ++ 13 :: 10 :: t by simp, Rsp.lnl_line [95] t (by decide)]
        simp [Rsp.one, red, Rep.norm, txt, prt]
    · have e : enc b (.mk 7 s n l) = hdr 42 l.length ++ (l.map (enc b)).flatten := by unfold enc; simp [encs_all]
      have hLL : (l.map (enc b)).flatten.length ≤ L := by rw [e, List.length_append] at hL; omega
      rw [e]; unfold Rsp.rd
      rw [List.append_assoc, hdr_line 42 _ _ (by decide)]
      simp only []
      rw [Rsp.one_num (by decide) (by decide) (by decide) (Rsp.fits_nat (by omega))]
      unfold Rsp.cnt
      rw [if_neg (by decide), if_neg (by decide), if_pos rfl, if_neg (by omega)]
      unfold Rsp.many
      rw [if_neg (by omega), show (l.length : Int).toNat = l.length by simp, hparts (.inl rfl) hLL]
      cases b with
      | false => simp [red, Rep.flat]; exact hred2 rfl
      | true => simp [red, Rep.norm, txt, prt]; exact hred rfl
    · have hev := he rfl
      cases b with
      | false =>
        have e : enc false (.mk 8 s n l) = hdr 42 l.length ++ (l.map (enc false)).flatten := by unfold enc; simp [encs_all]
        have hLL : (l.map (enc false)).flatten.length ≤ L := by rw [e, List.length_append] at hL; omega
        rw [e]; unfold Rsp.rd
        rw [List.append_assoc, hdr_line 42 _ _ (by decide)]
        simp only []
        rw [Rsp.one_num (by decide) (by decide) (by decide) (Rsp.fits_nat (by omega))]
        unfold Rsp.cnt
        rw [if_neg (by decide), if_neg (by decide), if_pos rfl, if_neg (by omega)]
        unfold Rsp.many
        rw [if_neg (by omega), show (l.length : Int).toNat = l.length by simp, hparts (.inr (.inl rfl)) hLL]
        simp [red, Rep.flat]; exact hred2 rfl
      | true =>
        have e2 : 2 * (l.length / 2) = l.length := by omega
        have e : enc true (.mk 8 s n l) = hdr 37 (l.length / 2) ++ (l.map (enc true)).flatten := by unfold enc; simp [encs_all, e2]
        have hLL : (l.map (enc true)).flatten.length ≤ L := by rw [e, List.length_append] at hL; omega
        rw [e]; unfold Rsp.rd
        rw [List.append_assoc, hdr_line 37 _ _ (by decide)]
        simp only []
        rw [Rsp.one_num (by decide) (by decide) (by decide) (Rsp.fits_nat (by omega))]
        unfold Rsp.cnt
        rw [if_neg (by decide), if_neg (by decide), if_neg (by decide), if_pos rfl]
        unfold Rsp.many
        rw [if_neg (by omega), show 2 * ((l.length / 2 : Nat) : Int).toNat = l.length by omega, hparts (.inr (.inl rfl)) hLL]
        simp [red, Rep.norm, txt, prt]; exact hred rfl
    · cases b with
      | false =>
        have e : enc false (.mk 9 s n l) = hdr 42 l.length ++ (l.map (enc false)).flatten := by unfold enc; simp [encs_all]
        have hLL : (l.map (enc false)).flatten.length ≤ L := by rw [e, List.length_append] at hL; omega
        rw [e]; unfold Rsp.rd
        rw [List.append_assoc, hdr_line 42 _ _ (by decide)]
        simp only []
        rw [Rsp.one_num (by decide) (by decide) (by decide) (Rsp.fits_nat (by omega))]
        unfold Rsp.cnt
        rw [if_neg (by decide), if_neg (by decide), if_pos rfl, if_neg (by omega)]
        unfold Rsp.many
        rw [if_neg (by omega), show (l.length : Int).toNat = l.length by simp, hparts (.inr (.inr rfl)) hLL]
        simp [red, Rep.flat]; exact hred2 rfl
      | true =>
        have e : enc true (.mk 9 s n l) = hdr 126 l.length ++ (l.map (enc true)).flatten := by unfold enc; simp [encs_all]
        have hLL : (l.map (enc true)).flatten.length ≤ L := by rw [e, List.length_append] at hL; omega
        rw [e]; unfold Rsp.rd
        rw [List.append_assoc, hdr_line 126 _ _ (by decide)]
        simp only []
        rw [Rsp.one_num (by decide) (by decide) (by decide) (Rsp.fits_nat (by omega))]
        unfold Rsp.cnt
        rw [if_neg (by decide), if_neg (by decide), if_neg (by decide), if_neg (by decide), if_pos rfl]
        unfold Rsp.many
        rw [if_neg (by omega), show (l.length : Int).toNat = l.length by simp, hparts (.inr (.inr rfl)) hLL]
        simp [red, Rep.norm, txt, prt]; exact hred rfl
/-- What is cut off is not read. -/
theorem rd_cut (b : Bool) {d : Nat} {r : Rep} {p q : List UInt8} (ho : okR d r) (hm : (enc b r).length ≤ 1048576) (he : enc b r = p ++ q) (hq : q ≠ []) : Rsp.rd d p.length p = none := by
  cases h : Rsp.rd d p.length p with
  | none => rfl
  | some x =>
    obtain ⟨r', t⟩ := x
    have hl : p.length ≤ (enc b r).length := by rw [he, List.length_append]; omega
    have h1 := Rsp.rd_more d q hl h
    have h2 := rd_enc b d r (enc b r).length [] ho (Nat.le_refl _) hm
    rw [← he] at h1
    rw [List.append_nil, h1] at h2
    injection h2 with h2; injection h2 with _ h3
    exact absurd (List.append_eq_nil_iff.1 h3).2 hq
end Go.Proofs.YtjdnpgdedbegfaaDoor
