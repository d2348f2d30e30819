/- The document's answer's Sorted: the ground. -/
import Derived.Test.YtnmchplabaoflaaGreatDoorRtrB
import Derived.Test.YtnmchplabaoflaaGreatDoorRplO
namespace Go.Proofs.YtnmchplabaoflaaGreatDoor
open Go.RowKit
set_option linter.unusedVariables false

mutual
/-- Few parts at each node, and none where the kind has none. -/
def okP : Rep → Prop
  | .mk k s n l => l.length ≤ 19 ∧ (l = [] ∨ prt k = true) ∧ okPs l
def okPs : List Rep → Prop
  | [] => True
  | r :: t => okP r ∧ okPs t
end
theorem okPs_mem : ∀ {l : List Rep} {r : Rep}, okPs l → r ∈ l → okP r
  | a :: t, r, h, hr => by
    unfold okPs at h
    rcases List.mem_cons.1 hr with rfl | hr
    · exact h.1
    · exact okPs_mem h.2 hr
theorem okPs_of : ∀ {l : List Rep}, (∀ r ∈ l, okP r) → okPs l
  | [], _ => by unfold okPs; trivial
  | a :: t, h => by unfold okPs; exact ⟨h a (by simp), okPs_of fun r hr => h r (by simp [hr])⟩
theorem enter_rsorted : ∀ args w, (callFunc 20 args).run Tryz.prog w = .ok (.enter 20 args) w :=
  enter_of Tryz.func20 (by kernel_rfl) (by kernel_rfl)
/-- What the document's answer's Sorted asks and gives. -/
def RsrtAt (r : Rep) : Prop := ∀ (w : World) (cs : List Value), okP r → Liv w r cs →
  Calls Tryz.prog 20 #[.agg cs.toArray] w fun e w' => FRet w w' e (rsrt r) ∧ Below w.heap.size w w'
theorem rsrt_none {k : Int} {s : List UInt8} {n : Int} {l : List Rep} (h : prt k = false) : rsrt (.mk k s n l) = .mk k s n l := by rw [rsrt_mk, h]; simp

end Go.Proofs.YtnmchplabaoflaaGreatDoor
