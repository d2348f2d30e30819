/- The walk of reply's Sorted: the ground. -/
import Derived.Test.YtjefpnhffdeekaaRplK
import Derived.Deep.RegionLaw
namespace Go.Proofs.Ytjefpnhffdeekaa
open Go.RowKit
set_option linter.unusedVariables false

mutual
/-- Few parts at each node. -/
def okS : Rep → Prop
  | .mk k s n l => l.length ≤ 19 ∧ okSs l
def okSs : List Rep → Prop
  | [] => True
  | r :: t => okS r ∧ okSs t
end
theorem okSs_mem : ∀ {l : List Rep} {r : Rep}, okSs l → r ∈ l → okS r
  | a :: t, r, h, hr => by
    unfold okSs at h
    rcases List.mem_cons.1 hr with rfl | hr
    · exact h.1
    · exact okSs_mem h.2 hr
/-- A reply sorted, as the program does it. -/
def psrt (x : Rep) : Rep := srtN x.norm
theorem psrt_mk (k : Int) (s : List UInt8) (n : Int) (l : List Rep) : psrt (.mk k s n l) = .mk k (if txt k then s else []) (if k = 3 then n else 0) (arrO k ((if prt k then l else []).map psrt)) := by
  unfold psrt
  rw [norm_mk, srtN_mk]
  congr 1
  have e : ((if prt k then l.map Rep.norm else []).map srtN) = ((if prt k then l else []).map psrt) := by
    split
    · rw [List.map_map]; rfl
    · rfl
  rw [e]
  have hn : ∀ m : List Rep, (m.map psrt).map Rep.norm = m.map psrt := fun m => by
    rw [List.map_map]
    exact List.map_congr_left fun r _ => norm_srt r
  have h1 := arrO_norm k ((if prt k then l else []).map psrt)
  rw [hn] at h1
  rw [← h1]
  have : ∀ X : List Rep, (∀ r ∈ X, r.norm = r) → X.map Rep.norm = X := fun X h => by
    have : X.map Rep.norm = X.map id := List.map_congr_left fun r hr => h r hr
    rw [this, List.map_id]
  refine this _ (fun r hr => ?_)
  have hm : r ∈ (if prt k then l else []).map psrt := by
    have hp : (arrO k ((if prt k then l else []).map psrt)).Perm ((if prt k then l else []).map psrt) := by
      unfold arrO
      split
      · exact isort_perm _ _
      · split
        · have q1 : (isort ltpo (prs ((if prt k then l else []).map psrt))).flatten.Perm (prs ((if prt k then l else []).map psrt)).flatten := (isort_perm ltpo _).flatten
          have := q1.append_right (lastOf ((if prt k then l else []).map psrt))
          rwa [prs_last] at this
        · exact List.Perm.refl _
    exact hp.mem_iff.1 hr
  obtain ⟨q, _, rfl⟩ := List.mem_map.1 hm
  exact norm_srt q
theorem Blk.x4 {w : World} {g : Nat} {t : TypeId} {a b c d : Value} (h : Blk w g t #[a, b, c, d]) : w.cell? ⟨g, 0, none⟩ = some a ∧ w.cell? ⟨g, 1, none⟩ = some b ∧ w.cell? ⟨g, 2, none⟩ = some c ∧ w.cell? ⟨g, 3, none⟩ = some d := ⟨h.cell 0, h.cell 1, h.cell 2, h.cell 3⟩
theorem RV.drew_ {w : World} {S : Nat → Prop} {r : Rep} {cs : List Value} (h : RV w S r cs) : RV w.drew S r cs := RV.keep (w := w) (w' := w.drew) (S := S) (fun p _ => rfl) h
theorem below_set {w w' : World} {B : Nat} (h : Below B w w') {g : Nat} (hg : B ≤ g) (i : Nat) (u : Value) : Below B w (w'.setCell ⟨g, i, none⟩ u) := h.setCell hg u
theorem enter_sorted : ∀ args w, (callFunc 6 args).run Try.prog w = .ok (.enter 6 args) w :=
  enter_of Try.func6 (by kernel_rfl) (by kernel_rfl)
/-- What Sorted asks and gives. -/
def SrtAt (r : Rep) : Prop := ∀ (w : World) (cs : List Value), okS r → Liv w r cs →
  Calls Try.prog 6 #[.agg cs.toArray] w fun e w' => FRet w w' e (psrt r) ∧ Below w.heap.size w w'
theorem lastOf_drop {α : Type} : ∀ l : List α, lastOf l = l.drop (2 * (l.length / 2))
  | [] => by rw [List.drop_nil]; rfl
  | [x] => by rw [show 2 * (([x] : List α).length / 2) = 0 by simp]; rfl
  | a :: b :: t => by
    rw [lastOf, lastOf_drop t]
    have e : 2 * ((a :: b :: t).length / 2) = 2 * (t.length / 2) + 1 + 1 := by simp only [List.length_cons]; omega
    rw [e]; rfl
theorem prs_flat_len {α : Type} (ps : List (List α)) (h : ∀ p ∈ ps, p.length = 2) : ps.flatten.length = 2 * ps.length := by
  induction ps with
  | nil => rfl
  | cons p t ih => rw [List.flatten_cons, List.length_append, h p (by simp), ih (fun q hq => h q (by simp [hq])), List.length_cons]; omega
theorem map_take_succ {α β : Type} (f : α → β) (l : List α) (i : Nat) {r : α} (h : l[i]? = some r) : (l.map f).take (i + 1) = (l.map f).take i ++ [f r] := by
  obtain ⟨hi, hr⟩ := List.getElem?_eq_some_iff.1 h
  rw [List.take_succ_eq_append_getElem (by simpa using hi), List.getElem_map, hr]
end Go.Proofs.Ytjefpnhffdeekaa
