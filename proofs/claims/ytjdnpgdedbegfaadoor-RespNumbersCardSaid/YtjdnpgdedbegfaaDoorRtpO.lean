/- The reference's reading and the program's are the same: plain. -/
import Derived.Test.YtjdnpgdedbegfaaDoorRspP
namespace Go.Proofs.YtjdnpgdedbegfaaDoor
open Go.RowKit
set_option linter.unusedVariables false
namespace Rsp

/-- Up to the first 13, 10. -/
def crl : List UInt8 → Option (List UInt8 × List UInt8)
  | [] => none
  | c :: t => if c = 13 ∧ t.head? = some 10 then some ([], t.tail) else (crl t).map (fun p => (c :: p.1, p.2))
theorem crl_of_lnl : ∀ {b s t : List UInt8}, lnl b = some (s, t) → crl b = some (s, t)
  | [], s, t, h => by cases h
  | c :: b, s, t, h => by
    unfold lnl at h
    unfold crl
    by_cases h1 : c = 10
    · rw [if_pos h1] at h; cases h
    · rw [if_neg h1] at h
      by_cases h2 : c = 13
      · rw [if_pos h2] at h
        by_cases h3 : b.head? = some 10
        · rw [if_pos h3] at h; rw [if_pos ⟨h2, h3⟩]; exact h
        · rw [if_neg h3] at h; cases h
      · rw [if_neg h2] at h
        rw [if_neg (fun e => h2 e.1)]
        cases hb : lnl b with
        | none => rw [hb] at h; cases h
        | some p =>
          obtain ⟨u, v⟩ := p
          rw [hb] at h
          rw [crl_of_lnl hb]; exact h
theorem lnl_of_crl : ∀ {b s t : List UInt8}, crl b = some (s, t) → (∀ c ∈ s, c ≠ 10 ∧ c ≠ 13) → lnl b = some (s, t)
  | [], s, t, h, _ => by cases h
  | c :: b, s, t, h, hs => by
    unfold crl at h
    unfold lnl
    by_cases h1 : c = 13 ∧ b.head? = some 10
    · rw [if_pos h1] at h
      rw [if_neg (by rw [h1.1]; decide), if_pos h1.1, if_pos h1.2]; exact h
    · rw [if_neg h1] at h
      cases hb : crl b with
      | none => rw [hb] at h; cases h
      | some p =>
        obtain ⟨u, v⟩ := p
        rw [hb] at h
        injection h with h; injection h with e1 e2
        subst e1; subst e2
        have hc := hs c (by simp)
        rw [if_neg hc.1, if_neg hc.2, lnl_of_crl hb (fun x hx => hs x (by simp [hx]))]; rfl
theorem crl_none {b : List UInt8} (h : crl b = none) : lnl b = none := by
  cases hb : lnl b with
  | none => rfl
  | some p => obtain ⟨u, v⟩ := p; rw [crl_of_lnl hb] at h; cases h
theorem crl_bad {b s t : List UInt8} (h : crl b = some (s, t)) (hl : lnl b = none) : Num.prs s = none := by
  cases hp : Num.prs s with
  | none => rfl
  | some n =>
    have := lnl_of_crl h (by rw [← Num.fmt_of_prs hp]; exact fmt_line n)
    rw [hl] at this; cases this
theorem crl_len : ∀ {b s t : List UInt8}, crl b = some (s, t) → b = s ++ 13 :: 10 :: t
  | [], s, t, h => by cases h
  | c :: b, s, t, h => by
    unfold crl at h
    by_cases h1 : c = 13 ∧ b.head? = some 10
    · rw [if_pos h1] at h
      injection h with h; injection h with e1 e2
      subst e1; subst e2
      cases b with
      | nil => simp at h1
      | cons x y => simp at h1; simp [h1.1, h1.2]
    · rw [if_neg h1] at h
      cases hb : crl b with
      | none => rw [hb] at h; cases h
      | some p =>
        obtain ⟨u, v⟩ := p
        rw [hb] at h
        injection h with h; injection h with e1 e2
        subst e1; subst e2
        rw [crl_len hb]; rfl

theorem reps_congr {f g : List UInt8 → Option (Rep × List UInt8)} {N : Nat} (hfg : ∀ b, b.length ≤ N → f b = g b) (hf : ∀ b r t, f b = some (r, t) → t.length ≤ b.length) :
    ∀ (m : Nat) (b : List UInt8), b.length ≤ N → reps f m b = reps g m b
  | 0, b, h => rfl
  | m + 1, b, h => by
    unfold reps
    cases hb : f b with
    | none => rw [← hfg b h, hb]
    | some p =>
      obtain ⟨r, t⟩ := p
      rw [← hfg b h, hb]
      simp only
      rw [reps_congr hfg hf m t (Nat.le_trans (hf b r t hb) h)]
theorem reps_short {f : List UInt8 → Option (Rep × List UInt8)} (hf : ∀ b r t, f b = some (r, t) → t.length + 3 ≤ b.length) : ∀ (m : Nat) {b u : List UInt8} {l : List Rep}, reps f m b = some (l, u) → u.length + 3 * m ≤ b.length
  | 0, b, u, l, h => by
    unfold reps at h
    injection h with h; injection h with h1 h2
    subst h2; omega
  | m + 1, b, u, l, h => by
    unfold reps at h
    cases hb : f b with
    | none => rw [hb] at h; cases h
    | some p =>
      obtain ⟨r, t⟩ := p
      rw [hb] at h
      simp only at h
      cases ht : reps f m t with
      | none => rw [ht] at h; cases h
      | some q =>
        obtain ⟨l2, u2⟩ := q
        rw [ht] at h
        injection h with h; injection h with h1 h2
        subst h2
        have := reps_short hf m ht
        have := hf b r t hb
        omega
theorem many_L {k n : Int} {f g : List UInt8 → Option (Rep × List UInt8)} {L L' m : Nat} {t : List UInt8} (hm : n.toNat ≤ m) (h1 : t.length + 3 ≤ L') (h2 : L' ≤ L) (hfg : ∀ b, b.length ≤ t.length → f b = g b) (hf : ∀ b r t, f b = some (r, t) → t.length + 3 ≤ b.length) :
    many k f L n m t = many k g L' n m t := by
  unfold many
  by_cases h0 : n < 0
  · rw [if_pos (.inl h0), if_pos (.inl h0)]
  · by_cases h3 : (L' : Int) < n
    · rw [if_pos (c := n < 0 ∨ (L' : Int) < n) (.inr h3)]
      split
      · rfl
      · cases hr : reps f m t with
        | none => rfl
        | some p =>
          obtain ⟨l, u⟩ := p
          have := reps_short hf m hr
          omega
    · rw [if_neg (by omega), if_neg (by omega), reps_congr hfg (fun b r t h => by have := hf b r t h; omega) m t (Nat.le_refl _)]
theorem rd_L : ∀ (d L : Nat) (b : List UInt8), b.length ≤ L → rd d L b = rd d b.length b
  | 0, L, b, h => rfl
  | d + 1, L, b, h => by
    unfold rd
    cases hb : lnl b with
    | none => rfl
    | some p =>
      obtain ⟨s, t⟩ := p
      cases s with
      | nil => rfl
      | cons c body =>
        obtain ⟨p, h1, h2⟩ := lnl_suf hb
        have ht : t.length + 3 ≤ b.length := by rw [h1]; simp only [List.length_append, List.length_cons]; omega
        have hfg : ∀ x : List UInt8, x.length ≤ t.length → rd d L x = rd d b.length x := fun x hx => by rw [rd_L d L x (by omega), rd_L d b.length x (by omega)]
        have hf : ∀ (b : List UInt8) r t, rd d L b = some (r, t) → t.length + 3 ≤ b.length := fun b r t h => rd_suf d h
        simp only
        unfold one
        split
        · rfl
        · split
          · rfl
          · split
            · rfl
            · cases hp : Num.prs body with
              | none => rfl
              | some n =>
                simp only
                unfold cnt
                split
                · rfl
                · split
                  · rfl
                  · split
                    · split
                      · rfl
                      · exact many_L (Nat.le_refl _) ht h hfg hf
                    · split
                      · exact many_L (by omega) ht h hfg hf
                      · split
                        · exact many_L (Nat.le_refl _) ht h hfg hf
                        · rfl

theorem rd_nil (d L : Nat) : rd d L [] = none := by cases d <;> rfl
theorem lnl_cons {c : UInt8} (b : List UInt8) (h1 : c ≠ 10) (h2 : c ≠ 13) : lnl (c :: b) = (lnl b).map (fun p => (c :: p.1, p.2)) := by
  rw [lnl, if_neg h1, if_neg h2]
theorem rd_num {d L : Nat} {c : UInt8} {b : List UInt8} (hc : c = 58 ∨ c = 36 ∨ c = 42 ∨ c = 37 ∨ c = 126) :
    rd (d + 1) L (c :: b) = match crl b with
      | none => none
      | some (s, t) => match Num.prs s with
        | none => none
        | some n => cnt (rd d L) L c n t := by
  have h10 : c ≠ 10 := by rcases hc with rfl | rfl | rfl | rfl | rfl <;> decide
  have h13 : c ≠ 13 := by rcases hc with rfl | rfl | rfl | rfl | rfl <;> decide
  have h43 : c ≠ 43 := by rcases hc with rfl | rfl | rfl | rfl | rfl <;> decide
  have h45 : c ≠ 45 := by rcases hc with rfl | rfl | rfl | rfl | rfl <;> decide
  have h95 : c ≠ 95 := by rcases hc with rfl | rfl | rfl | rfl | rfl <;> decide
  rw [rd, lnl_cons b h10 h13]
  cases hl : lnl b with
  | none =>
    cases hr : crl b with
    | none => rfl
    | some p =>
      obtain ⟨s, t⟩ := p
      simp only [Option.map_none]
      rw [crl_bad hr hl]
  | some p =>
    obtain ⟨s, t⟩ := p
    rw [crl_of_lnl hl]
    simp only [Option.map_some]
    unfold one
    rw [if_neg h43, if_neg h45, if_neg h95]
    rfl
theorem rd_sign {d L : Nat} {c : UInt8} {b : List UInt8} (hc : c = 43 ∨ c = 45) :
    rd (d + 1) L (c :: b) = (lnl b).map (fun p => (.mk (if c = 43 then 1 else 2) p.1 0 [], p.2)) := by
  have h10 : c ≠ 10 := by rcases hc with rfl | rfl <;> decide
  have h13 : c ≠ 13 := by rcases hc with rfl | rfl <;> decide
  rw [rd, lnl_cons b h10 h13]
  cases hl : lnl b with
  | none => rfl
  | some p =>
    obtain ⟨s, t⟩ := p
    simp only [Option.map_some]
    unfold one
    rcases hc with rfl | rfl <;> simp
theorem lnl_empty {b t : List UInt8} (h : lnl b = some ([], t)) : b = 13 :: 10 :: t := by
  have := crl_len (crl_of_lnl h)
  simpa using this
theorem rd_null {d L : Nat} {b : List UInt8} : rd (d + 1) L (95 :: b) = if b.take 2 = [13, 10] then some (.mk 5 [] 0 [], b.drop 2) else none := by
  rw [rd, lnl_cons b (by decide) (by decide)]
  by_cases h : b.take 2 = [13, 10]
  · rw [if_pos h]
    obtain ⟨t, rfl⟩ : ∃ t, b = 13 :: 10 :: t := ⟨b.drop 2, by rw [← List.take_append_drop 2 b, h]; simp⟩
    simp [lnl, one]
  · rw [if_neg h]
    cases hl : lnl b with
    | none => rfl
    | some p =>
      obtain ⟨s, t⟩ := p
      simp only [Option.map_some]
      unfold one
      rw [if_neg (by decide), if_neg (by decide), if_pos rfl]
      split
      · rename_i e
        subst e
        rw [lnl_empty hl] at h
        simp at h
      · rfl
theorem rd_other {d L : Nat} {c : UInt8} {b : List UInt8} (h1 : c ≠ 43) (h2 : c ≠ 45) (h3 : c ≠ 95) (h4 : c ≠ 58) (h5 : c ≠ 36) (h6 : c ≠ 42) (h7 : c ≠ 37) (h8 : c ≠ 126) : rd (d + 1) L (c :: b) = none := by
  rw [rd]
  cases hl : lnl (c :: b) with
  | none => rfl
  | some p =>
    obtain ⟨s, t⟩ := p
    cases s with
    | nil => rfl
    | cons x y =>
      have hx : x = c := by
        have := crl_len (crl_of_lnl hl)
        simp at this
        exact this.1.symm
      subst hx
      simp only
      unfold one
      rw [if_neg h1, if_neg h2, if_neg h3]
      cases Num.prs y with
      | none => rfl
      | some n =>
        simp only
        unfold cnt
        rw [if_neg h4, if_neg h5, if_neg h6, if_neg h7, if_neg h8]
end Rsp
end Go.Proofs.YtjdnpgdedbegfaaDoor
