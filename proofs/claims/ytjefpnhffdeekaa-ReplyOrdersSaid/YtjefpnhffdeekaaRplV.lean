/- Few parts stay few: sorted, turned. -/
import Derived.Test.YtjefpnhffdeekaaRplU
namespace Go.Proofs.Ytjefpnhffdeekaa
open Go.RowKit
set_option linter.unusedVariables false

theorem okSs_of : ∀ {l : List Rep}, (∀ r ∈ l, okS r) → okSs l
  | [], _ => by unfold okSs; trivial
  | a :: t, h => by unfold okSs; exact ⟨h a (by simp), okSs_of (fun r hr => h r (by simp [hr]))⟩
theorem okS_iff {k : Int} {s : List UInt8} {n : Int} {l : List Rep} : okS (.mk k s n l) ↔ l.length ≤ 19 ∧ ∀ r ∈ l, okS r := by
  constructor
  · intro h; unfold okS at h; exact ⟨h.1, fun r hr => okSs_mem h.2 hr⟩
  · intro h; unfold okS; exact ⟨h.1, okSs_of h.2⟩
theorem okM_okS : ∀ (d : Nat) (r : Rep), okM d r → okS r
  | 0, .mk k s n l, h => by
    unfold okM at h
    obtain ⟨_, _, _, rfl⟩ := h
    exact okS_iff.2 ⟨by simp, by simp⟩
  | d + 1, .mk k s n l, h => by
    unfold okM at h
    obtain ⟨_, _, _, h4, h5, _⟩ := h
    exact okS_iff.2 ⟨by omega, fun r hr => okM_okS d r (h5 r hr)⟩
theorem trn_perm {α : Type} (k : Int) (l : List α) : (trn k l).Perm l := by
  unfold trn
  split
  · exact List.reverse_perm l
  · split
    · have q1 : (prs l).reverse.flatten.Perm (prs l).flatten := (List.reverse_perm (prs l)).flatten
      have := q1.append_right (lastOf l)
      rwa [prs_last] at this
    · exact List.Perm.refl _
theorem arrO_perm (k : Int) (l : List Rep) : (arrO k l).Perm l := by
  unfold arrO
  split
  · exact isort_perm _ _
  · split
    · have q1 : (isort ltpo (prs l)).flatten.Perm (prs l).flatten := (isort_perm ltpo _).flatten
      have := q1.append_right (lastOf l)
      rwa [prs_last] at this
    · exact List.Perm.refl _
theorem okS_tn_ : ∀ (N : Nat) (r : Rep), SizeOf.sizeOf r ≤ N → okS r → okS (tn r) := by
  intro N
  induction N with
  | zero => intro r h; cases r; simp at h
  | succ N ih =>
    intro r h hr
    obtain ⟨k, s, n, l⟩ := r
    obtain ⟨h1, h2⟩ := okS_iff.1 hr
    rw [tn_mk]
    have hp := trn_perm k (l.map tn)
    refine okS_iff.2 ⟨by rw [hp.length_eq, List.length_map]; exact h1, fun q hq => ?_⟩
    obtain ⟨p, hp1, rfl⟩ := List.mem_map.1 (hp.mem_iff.1 hq)
    exact ih p (by have := sizeOf_mem (k := k) (n := n) (s := s) hp1; omega) (h2 p hp1)
theorem okS_tn {r : Rep} (h : okS r) : okS (tn r) := okS_tn_ _ r (Nat.le_refl _) h
theorem okS_psrt_ : ∀ (N : Nat) (r : Rep), SizeOf.sizeOf r ≤ N → okS r → okS (psrt r) := by
  intro N
  induction N with
  | zero => intro r h; cases r; simp at h
  | succ N ih =>
    intro r h hr
    obtain ⟨k, s, n, l⟩ := r
    obtain ⟨h1, h2⟩ := okS_iff.1 hr
    rw [psrt_mk]
    have hp := arrO_perm k ((if prt k then l else []).map psrt)
    have hl : (if prt k then l else []).length ≤ 19 := by split <;> first | exact h1 | simp
    have hm : ∀ r ∈ (if prt k then l else []), r ∈ l := fun r hr => by
      split at hr
      · exact hr
      · cases hr
    refine okS_iff.2 ⟨by rw [hp.length_eq, List.length_map]; exact hl, fun q hq => ?_⟩
    obtain ⟨p, hp1, rfl⟩ := List.mem_map.1 (hp.mem_iff.1 hq)
    exact ih p (by have := sizeOf_mem (k := k) (n := n) (s := s) (hm p hp1); omega) (h2 p (hm p hp1))
theorem okS_psrt {r : Rep} (h : okS r) : okS (psrt r) := okS_psrt_ _ r (Nat.le_refl _) h
theorem ord_self17 (r : Rep) : ord r r = 0 := by unfold ord; exact ordn_self _
theorem psrt_tn (r : Rep) : psrt (tn r) = psrt r := tn_srt r
theorem psrt_psrt (r : Rep) : psrt (psrt r) = psrt r := alk_again r
/-- How deep the parts stand. -/
def dep : Rep → Nat
  | .mk k _ _ l => (if prt k then deps l else 0) + 1
  where deps : List Rep → Nat
  | [] => 0
  | r :: t => max (dep r) (deps t)
end Go.Proofs.Ytjefpnhffdeekaa
