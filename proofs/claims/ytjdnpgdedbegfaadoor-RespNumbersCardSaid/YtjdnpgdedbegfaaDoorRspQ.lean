/- Rows of replies as bytes; how long what is drawn is; in plain Lean. -/
import Derived.Test.YtjdnpgdedbegfaaDoorRspP
namespace Go.Proofs.YtjdnpgdedbegfaaDoor
set_option linter.unusedVariables false

/-- The replies that bytes begin with, and where they end. -/
inductive AllOf : List UInt8 → List Rep → Nat → Prop
  | stop (b : List UInt8) : Rsp.rd 33 b.length b = none → AllOf b [] 0
  | more (b : List UInt8) (r : Rep) (t : List UInt8) (l : List Rep) (at_ : Nat) : Rsp.rd 33 b.length b = some (r, t) → AllOf t l at_ → AllOf b (r :: l) (b.length - t.length + at_)
theorem all_none {p : List UInt8} {l : List Rep} {k : Nat} (h : AllOf p l k) (hp : Rsp.rd 33 p.length p = none) : l = [] ∧ k = 0 := by
  cases h with
  | stop h => exact ⟨rfl, rfl⟩
  | more _ r t l k h1 h2 => rw [hp] at h1; cases h1
theorem all_step {b : Bool} {r : Rep} {t : List UInt8} {l : List Rep} {k : Nat} (h : AllOf (enc b r ++ t) l k) (ho : okR 33 r) (hm : (enc b r).length + t.length ≤ 1048576) : ∃ l' k', l = red b r :: l' ∧ k = (enc b r).length + k' ∧ AllOf t l' k' := by
  have hr := rd_enc b 33 r (enc b r ++ t).length t ho (by simp) (by simp; omega)
  generalize hx : enc b r ++ t = x at h hr
  cases h with
  | stop _ h' => rw [hr] at h'; cases h'
  | more _ r' t' l' k' h1 h2 =>
    rw [hr] at h1
    injection h1 with h1; injection h1 with h3 h4
    subst h3; subst h4
    exact ⟨l', k', rfl, by rw [← hx]; simp, h2⟩
theorem okR_mono : ∀ (d e : Nat) (r : Rep), d ≤ e → okR d r → okR e r
  | 0, e, r, h, ho => by cases ho
  | d + 1, 0, r, h, ho => by omega
  | d + 1, e + 1, .mk k s n l, h, ho => ⟨ho.1, ho.2.1, ho.2.2.1, ho.2.2.2.1, fun h7 r hr => okR_mono d e r (by omega) (ho.2.2.2.2 h7 r hr)⟩
theorem rd_nil (d L : Nat) : Rsp.rd d L [] = none := by cases d <;> rfl
theorem all_rows : ∀ (rs : List Rep) (p : List UInt8) {l : List Rep} {k : Nat}, (∀ r ∈ rs, okR 33 r) → ((rs.map (enc true)).flatten ++ p).length ≤ 1048576 → Rsp.rd 33 p.length p = none → AllOf ((rs.map (enc true)).flatten ++ p) l k → l.length = rs.length ∧ k = ((rs.map (enc true)).flatten).length
  | [], p, l, k, ho, hm, hp, h => by
    obtain ⟨rfl, rfl⟩ := all_none h hp
    exact ⟨rfl, rfl⟩
  | r :: rs, p, l, k, ho, hm, hp, h => by
    simp only [List.map_cons, List.flatten_cons, List.append_assoc] at h hm ⊢
    obtain ⟨l', k', rfl, rfl, h'⟩ := all_step h (ho r (by simp)) (by simp only [List.length_append] at hm ⊢; omega)
    obtain ⟨h1, h2⟩ := all_rows rs p (fun r hr => ho r (by simp [hr])) (by simp only [List.length_append] at hm ⊢; omega) hp h'
    exact ⟨by simp [h1], by simp [h2]⟩

/-- The bytes of the first i of a row. -/
def upto (rs : List Rep) (i : Nat) : Nat := (((rs.take i).map (enc true)).flatten).length
theorem upto_succ (rs : List Rep) (i : Nat) (hi : i < rs.length) : upto rs (i + 1) = upto rs i + (enc true rs[i]).length := by
  unfold upto
  rw [List.take_succ_eq_append_getElem hi, List.map_append, List.flatten_append, List.length_append]; simp
theorem upto_lt (rs : List Rep) (i : Nat) (hi : i < rs.length) : upto rs i < upto rs (i + 1) := by
  rw [upto_succ rs i hi]; have := enc_pos true rs[i]; omega
theorem upto_le (rs : List Rep) : ∀ (j i : Nat), i ≤ j → j ≤ rs.length → upto rs i ≤ upto rs j
  | 0, i, h, hj => by rw [show i = 0 by omega]; exact Nat.le_refl _
  | j + 1, i, h, hj => by
    rcases Nat.lt_or_ge i (j + 1) with h1 | h1
    · have := upto_le rs j i (by omega) (by omega)
      have := upto_lt rs j (by omega); omega
    · rw [show i = j + 1 by omega]; exact Nat.le_refl _
theorem upto_all (rs : List Rep) : upto rs rs.length = ((rs.map (enc true)).flatten).length := by unfold upto; rw [List.take_length]
theorem all_cut (rs : List Rep) (k i : Nat) {l : List Rep} {m : Nat} (ho : ∀ r ∈ rs, okR 33 r) (hm : ((rs.map (enc true)).flatten).length ≤ 1048576) (hi : i ≤ rs.length) (hk : k ≤ ((rs.map (enc true)).flatten).length) (h1 : upto rs i ≤ k) (h2 : i < rs.length → k < upto rs (i + 1)) (h : AllOf (((rs.map (enc true)).flatten).take k) l m) : l.length = i ∧ m = upto rs i := by
  have hsp : ((rs.map (enc true)).flatten) = (((rs.take i).map (enc true)).flatten) ++ (((rs.drop i).map (enc true)).flatten) := by
    conv => lhs; rw [← List.take_append_drop i rs, List.map_append, List.flatten_append]
  have hu : (((rs.take i).map (enc true)).flatten).length = upto rs i := rfl
  have htk : ((rs.map (enc true)).flatten).take k = (((rs.take i).map (enc true)).flatten) ++ (((rs.drop i).map (enc true)).flatten).take (k - upto rs i) := by
    rw [hsp, List.take_append, List.take_of_length_le (by rw [hu]; exact h1), hu]
  rw [htk] at h
  have hlt : (((rs.take i).map (enc true)).flatten ++ (((rs.drop i).map (enc true)).flatten).take (k - upto rs i)).length ≤ 1048576 := by
    rw [← htk, List.length_take]; omega
  have hp : Rsp.rd 33 ((((rs.drop i).map (enc true)).flatten).take (k - upto rs i)).length ((((rs.drop i).map (enc true)).flatten).take (k - upto rs i)) = none := by
    rcases Nat.lt_or_ge i rs.length with hlt | hge
    · have h3 := h2 hlt
      rw [upto_succ rs i hlt] at h3
      rw [List.drop_eq_getElem_cons hlt, List.map_cons, List.flatten_cons, List.take_append_of_le_length (by omega)]
      have hmem := List.getElem_mem hlt
      refine rd_cut true (q := (enc true rs[i]).drop (k - upto rs i)) (ho _ hmem) (Nat.le_trans (mem_encs true hmem) hm) (List.take_append_drop _ _).symm ?_
      intro e
      have := congrArg List.length e
      simp at this; omega
    · rw [List.drop_eq_nil_of_le hge]; simp [rd_nil]
  obtain ⟨h3, h4⟩ := all_rows (rs.take i) _ (fun r hr => ho r (List.mem_of_mem_take hr)) hlt hp h
  exact ⟨by rw [h3, List.length_take]; omega, by rw [h4]; rfl⟩

/-- A reply that is drawn: of so many levels. -/
def okM : Nat → Rep → Prop
  | 0, .mk k s n l => fits k ∧ fits n ∧ s.length ≤ 20 ∧ l = []
  | d + 1, .mk k s n l => fits k ∧ fits n ∧ s.length ≤ 20 ∧ l.length ≤ 4 ∧ ∀ r ∈ l, okM d r
def sz : Nat → Nat
  | 0 => 46
  | d + 1 => 46 + 4 * sz d
theorem sz_le : ∀ (d e : Nat), d ≤ e → sz d ≤ sz e
  | d, 0, h => by rw [show d = 0 by omega]; exact Nat.le_refl _
  | 0, e + 1, h => by have := sz_le 0 e (by omega); simp only [sz] at this ⊢; omega
  | d + 1, e + 1, h => by have := sz_le d e (by omega); simp only [sz]; omega
theorem okM_zero {r : Rep} (h : okM 0 r) (d : Nat) : okM d r := by
  obtain ⟨k, s, n, l⟩ := r
  cases d with
  | zero => exact h
  | succ d => obtain ⟨h1, h2, h3, rfl⟩ := h; exact ⟨h1, h2, h3, by simp, by simp⟩
theorem okM_mono : ∀ (d e : Nat) (r : Rep), d ≤ e → okM d r → okM e r
  | 0, e, r, h, ho => okM_zero ho e
  | d + 1, 0, r, h, ho => by omega
  | d + 1, e + 1, .mk k s n l, h, ho => ⟨ho.1, ho.2.1, ho.2.2.1, ho.2.2.2.1, fun r hr => okM_mono d e r (by omega) (ho.2.2.2.2 r hr)⟩
theorem hdr_le (c : UInt8) (n : Nat) : (hdr c n).length ≤ 24 := by
  have := (Num.fmt_length (n : Int)).2
  unfold hdr
  simp only [List.length_cons, List.length_append, List.length_nil]
  omega
theorem flat_le (b : Bool) (d : Nat) : ∀ (l : List Rep), (∀ r ∈ l, (enc b r).length ≤ sz d) → ((l.map (enc b)).flatten).length ≤ l.length * sz d
  | [], h => by simp
  | r :: l, h => by
    have h1 := h r (by simp)
    have h2 := flat_le b d l (fun r hr => h r (by simp [hr]))
    simp only [List.map_cons, List.flatten_cons, List.length_append, List.length_cons, Nat.add_mul, Nat.one_mul]; omega
theorem enc_size (b : Bool) : ∀ (d : Nat) (r : Rep), okM d r → (enc b r).length ≤ sz d
  | d, .mk k s n l, h => by
    have hs : s.length ≤ 20 := by cases d with
      | zero => exact h.2.2.1
      | succ d => exact h.2.2.1
    have h36 := hdr_le 36 s.length
    have hf := (Num.fmt_length n).2
    have hz : 46 ≤ sz d := by cases d <;> simp [sz]
    have hl : ∀ m, 22 + (encs b m l).length ≤ sz d := by
      intro m
      cases d with
      | zero => obtain ⟨_, _, _, rfl⟩ := h; simp [encs_take, sz]
      | succ d =>
        obtain ⟨_, _, _, h4, h5⟩ := h
        have h6 := flat_le b d (l.take m) (fun r hr => enc_size b d r (h5 r (List.mem_of_mem_take hr)))
        have h7 : (l.take m).length ≤ 4 := by rw [List.length_take]; omega
        have h8 : (l.take m).length * sz d ≤ 4 * sz d := Nat.mul_le_mul_right _ h7
        rw [encs_take]; simp only [sz]; omega
    have hh : ∀ (c : UInt8) (n : Nat) (m : Nat), n ≤ 9 → (hdr c n).length + (encs b m l).length ≤ sz d := by
      intro c n m hn
      have : (hdr c n).length ≤ 22 := by
        unfold hdr
        have : (Num.fmt (n : Int)).length ≤ 19 := by
          rcases (show n = 0 ∨ n = 1 ∨ n = 2 ∨ n = 3 ∨ n = 4 ∨ n = 5 ∨ n = 6 ∨ n = 7 ∨ n = 8 ∨ n = 9 by omega) with rfl | rfl | rfl | rfl | rfl | rfl | rfl | rfl | rfl | rfl <;> decide
        simp; omega
      have := hl m; omega
    have hl4 : l.length ≤ 4 := by cases d with
      | zero => obtain ⟨_, _, _, rfl⟩ := h; simp
      | succ d => exact h.2.2.2.1
    unfold enc
    repeat' split
    all_goals first
      | (simp only [List.length_append, List.length_cons, List.length_nil, cln_len]; omega)
      | (rw [List.length_append]; exact hh _ _ _ (by omega))
      | (simp only [List.length_append, List.length_cons, List.length_nil]; omega)
      | (simp; omega)

def line_ (c : UInt8) : Bool := c != 13 && c != 10
mutual
/-- A reply of texts of one line, and whole pairs. -/
def Rep.pln : Rep → Rep
  | .mk k s n l =>
    if k = 1 ∨ k = 2 then .mk k (s.filter line_) n []
    else if k = 3 ∨ k = 4 then .mk k s n []
    else if k = 7 ∨ k = 9 then .mk k s n (Rep.plns l)
    else if k = 8 then .mk 8 s n ((Rep.plns l).take (l.length / 2 * 2))
    else .mk 5 s n []
def Rep.plns : List Rep → List Rep
  | [] => []
  | r :: t => r.pln :: Rep.plns t
end
theorem plns_map : ∀ l : List Rep, Rep.plns l = l.map Rep.pln
  | [] => rfl
  | r :: t => by unfold Rep.plns; rw [plns_map t]; rfl
theorem pln_mk (k : Int) (s : List UInt8) (n : Int) (l : List Rep) : Rep.pln (.mk k s n l) = if k = 1 ∨ k = 2 then .mk k (s.filter line_) n []
    else if k = 3 ∨ k = 4 then .mk k s n []
    else if k = 7 ∨ k = 9 then .mk k s n (l.map Rep.pln)
    else if k = 8 then .mk 8 s n ((l.map Rep.pln).take (l.length / 2 * 2))
    else .mk 5 s n [] := by rw [Rep.pln, plns_map]
theorem pln_ok : ∀ (d : Nat) (r : Rep), okM d r → okM d r.pln ∧ okR (d + 1) r.pln
  | d, .mk k s n l, h => by
    have h0 : fits k ∧ fits n ∧ s.length ≤ 20 ∧ l.length ≤ 4 := by cases d with
      | zero => obtain ⟨h1, h2, h3, rfl⟩ := h; exact ⟨h1, h2, h3, by simp⟩
      | succ d => exact ⟨h.1, h.2.1, h.2.2.1, h.2.2.2.1⟩
    obtain ⟨hk, hn, hs, hl⟩ := h0
    have hsub : ∀ r ∈ l, ∃ e, d = e + 1 ∧ okM e r := by
      intro r hr
      cases d with
      | zero => obtain ⟨_, _, _, rfl⟩ := h; cases hr
      | succ d => exact ⟨d, rfl, h.2.2.2.2 r hr⟩
    have hM : ∀ (k' : Int) (s' : List UInt8) (l' : List Rep), fits k' → s'.length ≤ 20 → (∀ r ∈ l', r ∈ l.map Rep.pln) → l'.length ≤ 4 → okM d (.mk k' s' n l') := by
      intro k' s' l' h1 h2 h3 h4
      cases d with
      | zero =>
        obtain ⟨_, _, _, rfl⟩ := h
        refine ⟨h1, hn, h2, ?_⟩
        cases l' with
        | nil => rfl
        | cons a b => have := h3 a (by simp); simp at this
      | succ d =>
        refine ⟨h1, hn, h2, h4, fun r hr => ?_⟩
        obtain ⟨a, ha, rfl⟩ := List.mem_map.1 (h3 r hr)
        exact (pln_ok d a (h.2.2.2.2 a ha)).1
    have hR : ∀ r ∈ l.map Rep.pln, okR d r := by
      intro r hr
      obtain ⟨a, ha, rfl⟩ := List.mem_map.1 hr
      obtain ⟨e, rfl, he⟩ := hsub a ha
      exact (pln_ok e a he).2
    have hf : (s.filter line_).length ≤ 20 := Nat.le_trans (List.length_filter_le _ _) hs
    rw [pln_mk]
    by_cases h1 : k = 1 ∨ k = 2
    · rw [if_pos h1]
      refine ⟨hM _ _ _ hk hf (by simp) (by simp), by omega, hn, fun _ c hc => ?_, by omega, by simp⟩
      have := (List.mem_filter.1 hc).2
      simp [line_] at this
      exact ⟨this.2, this.1⟩
    · rw [if_neg h1]
      by_cases h2 : k = 3 ∨ k = 4
      · rw [if_pos h2]
        exact ⟨hM _ _ _ hk hs (by simp) (by simp), by omega, hn, by omega, by omega, by simp⟩
      · rw [if_neg h2]
        by_cases h3 : k = 7 ∨ k = 9
        · rw [if_pos h3]
          exact ⟨hM _ _ _ hk hs (fun _ h => h) (by simpa using hl), by omega, hn, by omega, by omega, fun _ => hR⟩
        · rw [if_neg h3]
          by_cases h4 : k = 8
          · rw [if_pos h4]
            refine ⟨hM _ _ _ (by unfold fits; omega) hs (fun _ h => List.mem_of_mem_take h) (by rw [List.length_take]; omega), by omega, hn, by omega, fun _ => ?_, fun _ r hr => hR r (List.mem_of_mem_take hr)⟩
            rw [List.length_take, List.length_map]; omega
          · rw [if_neg h4]
            exact ⟨hM _ _ _ (by unfold fits; omega) hs (by simp) (by simp), by omega, hn, by omega, by omega, by simp⟩
end Go.Proofs.YtjdnpgdedbegfaaDoor
