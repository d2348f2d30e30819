/- The document's answer's Sorted: the ground; how deep replies are: plain. -/
import Derived.Test.YtnmchplabaoflaaRtrB
import Derived.Test.YtnmchplabaoflaaRplO
namespace Go.Proofs.Ytnmchplabaoflaa
open Go.RowKit
set_option linter.unusedVariables false

mutual
/-- Few parts at each node, and none where the kind has none. -/
def okP : Rep → Prop
  | .mk k s n l => l.length ≤ 19 ∧ (l = [] ∨ prt k = true) ∧ okPs l
def okPs : List Rep → Prop
  | [] => True
  | r :: t => okP r ∧ okPs t
end
theorem okPs_mem : ∀ {l : List Rep} {r : Rep}, okPs l → r ∈ l → okP r
  | a :: t, r, h, hr => by
    unfold okPs at h
    rcases List.mem_cons.1 hr with rfl | hr
    · exact h.1
    · exact okPs_mem h.2 hr
theorem okPs_of : ∀ {l : List Rep}, (∀ r ∈ l, okP r) → okPs l
  | [], _ => by unfold okPs; trivial
  | a :: t, h => by unfold okPs; exact ⟨h a (by simp), okPs_of fun r hr => h r (by simp [hr])⟩
theorem okM_okP : ∀ (d : Nat) (r : Rep), okM d r → okP r
  | 0, .mk k s n l, h => by
    unfold okM at h
    obtain ⟨_, _, _, rfl⟩ := h
    unfold okP; exact ⟨by simp, .inl rfl, by unfold okPs; trivial⟩
  | d + 1, .mk k s n l, h => by
    unfold okM at h
    unfold okP
    exact ⟨by omega, h.2.2.2.2.2, okPs_of fun r hr => okM_okP d r (h.2.2.2.2.1 r hr)⟩
theorem enter_rsorted : ∀ args w, (callFunc 14 args).run Try.prog w = .ok (.enter 14 args) w :=
  enter_of Try.func14 (by kernel_rfl) (by kernel_rfl)
/-- What the document's answer's Sorted asks and gives. -/
def RsrtAt (r : Rep) : Prop := ∀ (w : World) (cs : List Value), okP r → Liv w r cs →
  Calls Try.prog 14 #[.agg cs.toArray] w fun e w' => FRet w w' e (rsrt r) ∧ Below w.heap.size w w'
theorem rsrt_none {k : Int} {s : List UInt8} {n : Int} {l : List Rep} (h : prt k = false) : rsrt (.mk k s n l) = .mk k s n l := by rw [rsrt_mk, h]; simp

theorem deps_append : ∀ a b : List Rep, dep.deps (a ++ b) = max (dep.deps a) (dep.deps b)
  | [], b => by simp [dep.deps]
  | r :: t, b => by rw [List.cons_append, dep.deps, dep.deps, deps_append t b]; omega
theorem deps_take {l : List Rep} {i : Nat} {r : Rep} (h : l[i]? = some r) : dep.deps (l.take (i + 1)) = max (dep.deps (l.take i)) (dep r) := by
  obtain ⟨hi, hr⟩ := List.getElem?_eq_some_iff.1 h
  rw [List.take_succ_eq_append_getElem hi, hr, deps_append]; simp [dep.deps]
theorem deps_le : ∀ (l : List Rep) (m : Nat), (∀ r ∈ l, dep r ≤ m) → dep.deps l ≤ m
  | [], m, _ => by simp [dep.deps]
  | r :: t, m, h => by
    rw [dep.deps]
    have := h r (by simp)
    have := deps_le t m (fun q hq => h q (by simp [hq]))
    omega
theorem dep_mk (k : Int) (s : List UInt8) (n : Int) (l : List Rep) : dep (.mk k s n l) = dep.deps (if prt k then l else []) + 1 := by
  rw [dep]; split <;> rfl
theorem dep_okM : ∀ (d : Nat) (r : Rep), okM d r → dep r ≤ d + 1
  | 0, .mk k s n l, h => by
    unfold okM at h
    obtain ⟨_, _, _, rfl⟩ := h
    rw [dep_mk]; simp [dep.deps]
  | d + 1, .mk k s n l, h => by
    unfold okM at h
    rw [dep_mk]
    have := deps_le (if prt k then l else []) (d + 1) (fun r hr => dep_okM d r (h.2.2.2.2.1 r (by split at hr; exact hr; cases hr)))
    omega
theorem dep_mem {l : List Rep} {r : Rep} (h : r ∈ l) : dep r ≤ dep.deps l := by
  induction l with
  | nil => cases h
  | cons a t ih =>
    rw [dep.deps]
    rcases List.mem_cons.1 h with rfl | h
    · omega
    · have := ih h; omega
end Go.Proofs.Ytnmchplabaoflaa
