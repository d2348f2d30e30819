/- Sorted, turned, one more part: the plain laws of chapter 17. -/
import Derived.Test.YtjefpnhffdeekaaRplQ
namespace Go.Proofs.Ytjefpnhffdeekaa
open Go.RowKit
set_option linter.unusedVariables false

theorem norms_map : ∀ l : List Rep, Rep.norms l = l.map Rep.norm
  | [] => rfl
  | r :: t => by unfold Rep.norms; rw [List.map_cons, norms_map t]
theorem norm_mk (k : Int) (s : List UInt8) (n : Int) (l : List Rep) : (Rep.mk k s n l).norm = .mk k (if txt k then s else []) (if k = 3 then n else 0) (if prt k then l.map Rep.norm else []) := by rw [Rep.norm, norms_map]
mutual
theorem norm_norm17 : ∀ r : Rep, r.norm.norm = r.norm
  | .mk k s n l => by
    rw [norm_mk, norm_mk]
    congr 1
    · split <;> rfl
    · split <;> rfl
    · split
      · rw [← norms_map, ← norms_map, norms_norms17 l]
      · rfl
theorem norms_norms17 : ∀ l : List Rep, Rep.norms (Rep.norms l) = Rep.norms l
  | [] => rfl
  | r :: t => by rw [Rep.norms, Rep.norms, norm_norm17 r, norms_norms17 t]
end
theorem prt_of {k : Int} (h : k = 8 ∨ k = 9) : prt k = true := by unfold prt; exact decide_eq_true (by omega)
theorem arr_nil (k : Int) : arr k [] = [] := List.eq_nil_of_length_eq_zero (by rw [arr_len]; rfl)
mutual
/-- What is sorted has what its kind has, no more. -/
theorem norm_srt : ∀ x : Rep, (srtN x.norm).norm = srtN x.norm
  | .mk k s n l => by
    rw [norm_mk, srtN_mk, norm_mk]
    congr 1
    · split <;> rfl
    · split <;> rfl
    · split
      · have e : (arr k ((l.map Rep.norm).map srtN)).map Rep.norm = (arr k ((l.map Rep.norm).map srtN)).map id := by
          refine List.map_congr_left fun r hr => ?_
          have hm := (arr_perm k _).mem_iff.1 hr
          rw [List.map_map] at hm
          exact norms_srt l r hm
        rw [e, List.map_id]
      · rw [List.map_nil, arr_nil]
theorem norms_srt : ∀ (l : List Rep) (r : Rep), r ∈ l.map (srtN ∘ Rep.norm) → r.norm = id r
  | [], r, h => by simp at h
  | a :: t, r, h => by
    rcases List.mem_cons.1 h with rfl | h
    · exact norm_srt a
    · exact norms_srt t r h
end

/-! ### the document's answer's Sorted -/
def lto (a b : Rep) : Bool := decide (ord a b < 0)
def ltpo (a b : List Rep) : Bool := decide (ords (a.map Rep.norm) (b.map Rep.norm) < 0)
def arrO (k : Int) (l : List Rep) : List Rep :=
  if k = 9 then isort lto l else if k = 8 then (isort ltpo (prs l)).flatten ++ lastOf l else l
mutual
def rsrt : Rep → Rep
  | .mk k s n l => .mk k s n (if prt k then arrO k (rsrts l) else l)
def rsrts : List Rep → List Rep
  | [] => []
  | r :: t => rsrt r :: rsrts t
end
theorem rsrts_map : ∀ l : List Rep, rsrts l = l.map rsrt
  | [] => rfl
  | r :: t => by unfold rsrts; rw [List.map_cons, rsrts_map t]
theorem prs_map {α β : Type} (f : α → β) : ∀ l : List α, prs (l.map f) = (prs l).map (List.map f)
  | [] => rfl
  | [_] => rfl
  | a :: b :: t => by simp [prs, prs_map f t]
theorem lastOf_map {α β : Type} (f : α → β) : ∀ l : List α, lastOf (l.map f) = (lastOf l).map f
  | [] => rfl
  | [_] => rfl
  | a :: b :: t => by simp [lastOf, lastOf_map f t]
theorem arrO_norm (k : Int) (l : List Rep) : (arrO k l).map Rep.norm = arr k (l.map Rep.norm) := by
  unfold arrO arr
  split
  · exact isort_map (lt := lto) (lt' := ltn) Rep.norm (fun a b => rfl) l
  · split
    · rw [List.map_append, ← lastOf_map, List.map_flatten, isort_map (lt := ltpo) (lt' := ltp) (List.map Rep.norm) (fun a b => rfl), ← prs_map]
    · rfl
theorem rsrt_mk (k : Int) (s : List UInt8) (n : Int) (l : List Rep) : rsrt (.mk k s n l) = .mk k s n (if prt k then arrO k (l.map rsrt) else l) := by rw [rsrt, rsrts_map]
mutual
theorem rsrt_norm : ∀ x : Rep, (rsrt x).norm = srtN x.norm
  | .mk k s n l => by
    rw [rsrt_mk, norm_mk, norm_mk, srtN_mk]
    congr 1
    split
    · rw [arrO_norm, List.map_map, List.map_map, ← rsrts_norm l]
    · rw [List.map_nil, arr_nil]
theorem rsrts_norm : ∀ l : List Rep, l.map (Rep.norm ∘ rsrt) = l.map (srtN ∘ Rep.norm)
  | [] => rfl
  | r :: t => by rw [List.map_cons, List.map_cons, rsrts_norm t]; simp [rsrt_norm r]
end

/-! ### turned -/
def trn {α : Type} (k : Int) (l : List α) : List α :=
  if k = 9 then l.reverse else if k = 8 then (prs l).reverse.flatten ++ lastOf l else l
mutual
def tn : Rep → Rep
  | .mk k s n l => .mk k s n (trn k (tns l))
def tns : List Rep → List Rep
  | [] => []
  | r :: t => tn r :: tns t
end
theorem tns_map : ∀ l : List Rep, tns l = l.map tn
  | [] => rfl
  | r :: t => by unfold tns; rw [List.map_cons, tns_map t]
theorem trn_map {α β : Type} (f : α → β) (k : Int) (l : List α) : trn k (l.map f) = (trn k l).map f := by
  unfold trn
  split
  · rw [List.map_reverse]
  · split
    · rw [prs_map, lastOf_map, List.map_append, List.map_flatten, List.map_reverse]
    · rfl
theorem arr_trn (k : Int) (l : List Rep) : arr k (trn k l) = arr k l := by
  unfold arr trn
  split
  · exact isort_eq ltn_asymm ltn_trans ltn_anti (List.reverse_perm l)
  · split
    · have h2 : ∀ p ∈ (prs l).reverse, p.length = 2 := fun p hp => prs_two p (by simpa using hp)
      have := prs_flat (prs l).reverse (lastOf l) h2 (by rw [lastOf_len]; omega)
      rw [this.1, this.2, isort_eq ltp_asymm ltp_trans ltp_anti (List.reverse_perm (prs l))]
    · rfl
theorem tn_mk (k : Int) (s : List UInt8) (n : Int) (l : List Rep) : tn (.mk k s n l) = .mk k s n (trn k (l.map tn)) := by rw [tn, tns_map]
mutual
theorem tn_srt : ∀ x : Rep, srtN (tn x).norm = srtN x.norm
  | .mk k s n l => by
    rw [tn_mk, norm_mk, norm_mk, srtN_mk, srtN_mk]
    congr 1
    split
    · rw [← trn_map, ← trn_map, arr_trn, List.map_map, List.map_map, List.map_map, ← tns_srt l]; rfl
    · rfl
theorem tns_srt : ∀ l : List Rep, l.map (srtN ∘ Rep.norm ∘ tn) = l.map (srtN ∘ Rep.norm)
  | [] => rfl
  | r :: t => by rw [List.map_cons, List.map_cons, tns_srt t]; simp [tn_srt r]
end

/-! ### the laws -/
/-- Alike. -/
def alk (a b : Rep) : Bool := decide (ordn (srtN a.norm) (srtN b.norm) = 0)
theorem ord_sorted (a b : Rep) : ord (srtN a.norm) (srtN b.norm) = ordn (srtN a.norm) (srtN b.norm) := by unfold ord; rw [norm_srt, norm_srt]
theorem alk_turned (a : Rep) : ordn (srtN a.norm) (srtN (tn a).norm) = 0 ∧ ordn (srtN (tn a).norm) (srtN a.norm) = 0 := by rw [tn_srt, ordn_self]; exact ⟨rfl, rfl⟩
theorem alk_again (a : Rep) : srtN (srtN a.norm).norm = srtN a.norm := by rw [norm_srt, srtN_again]
theorem more_parts {k : Int} {s : List UInt8} {n : Int} {l : List Rep} (p : Rep) (h : prt k = true) :
    ordn (srtN (Rep.mk k s n l).norm) (srtN (Rep.mk k s n (l ++ [p])).norm) ≠ 0 ∧ ord (Rep.mk k s n l) (Rep.mk k s n (l ++ [p])) ≠ 0 := by
  constructor
  · intro e
    have := ordn_zero e
    rw [norm_mk, norm_mk, srtN_mk, srtN_mk, if_pos h, if_pos h, Rep.mk.injEq] at this
    have := congrArg List.length this.2.2.2
    simp [arr_len] at this
  · intro e
    have := ordn_zero e
    rw [norm_mk, norm_mk, if_pos h, if_pos h, Rep.mk.injEq] at this
    have := congrArg List.length this.2.2.2
    simp at this
theorem more_none {k : Int} {s : List UInt8} {n : Int} {l : List Rep} (p : Rep) (h : prt k = false) : (Rep.mk k s n (l ++ [p])).norm = (Rep.mk k s n l).norm := by
  rw [norm_mk, norm_mk, h]; simp
end Go.Proofs.Ytjefpnhffdeekaa
