/- A call of a Go function, as one step of a region that draws its order. -/
import Derived.Test.YtjdnpgdedbegfaaDoorRspS
import Derived.Deep.RegionLaw
namespace Go.Proofs.YtjdnpgdedbegfaaDoor
open Go.RowKit
set_option linter.unusedVariables false

theorem step_call {P : Program} {ops : Array Oper} {o : Oper} {a : Act} {w : World} {K : Act → World → Prop} {Q : Exit → Act → World → Prop} {E : Prop} (hgd : o.guard = none) (f : FuncId) (xs : Array Operand) (ts : Array TypeId)
    (ho : o.op = .call { callee := .value (.func f), args := xs, argTypes := ts }) {R : Ending → World → Prop} (vals : Array Value) (hc : Calls P f vals w R) (hv : xs.map a.eval = vals)
    (he : ∀ args w, (callFunc f args).run P w = .ok (.enter f args) w) (hR : ∀ e w', R e w' → ∃ v, e = .returned v ∧ K (a.put o.dst v) w') : if Region.wanted o (yielded ops a.tmps) = true then Oper.wp P o a w K Q else E := by
  subst hv
  have hw : Region.wanted o (yielded ops a.tmps) = true := by simp [Region.wanted, hgd]
  rw [if_pos hw]
  unfold Oper.wp execOp
  simp only [ho]
  have e1 : a.eval (.func f) = .func (.func f) #[] #[] := rfl
  simp [resolve, invoke, e1, Deferred.ofValue, he]
  simp only [Oper.upon]
  refine hc.mono fun e w' h => ?_
  obtain ⟨v, rfl, hk⟩ := hR e w' h
  exact hk
theorem enter_of {P : Program} {f : FuncId} {fn : Func} (hf : P.funcs[f]? = some fn) (hname : (fn.name == "runtime.NumGoroutine") = false) (hb : fn.body.isSome = true) : ∀ args w, (callFunc f args).run P w = .ok (.enter f args) w := by
  intro args w
  obtain ⟨c, hc⟩ := Option.isSome_iff_exists.1 hb
  have hn : ¬ fn.name = "runtime.NumGoroutine" := by simpa using hname
  simp [callFunc, hf, hn, hc]
theorem enter_flat : ∀ args w, (callFunc 16 args).run Tryd.prog w = .ok (.enter 16 args) w :=
  enter_of Tryd.func16 (by kernel_rfl) (by kernel_rfl)
end Go.Proofs.YtjdnpgdedbegfaaDoor
