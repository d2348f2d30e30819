/- The wrap of a law whose row lists package variables and a type's handle (errors.errorType), the world's shape kept; slices of strings as they come in. -/
import Derived.Test.YtnmchplabaoflaaDoorFltN
import Derived.Test.YtnmchplabaoflaaDoorCards
import Derived.Test.YtnmchplabaoflaaDoorTie
import Derived.ProofKit
import Derived.OpenShut
import Derived.LaidMore
import Derived.LaidHandle
import Derived.Lay
import Derived.SevenTiedAt
import Derived.Stop.Joined
import Derived.Shelf.Vars
import Derived.ShutString
import Derived.ChangeOld
import Derived.Below
import Derived.HandedShaped
import Derived.Deep.Slices
import Derived.Carry
namespace Go.Proofs.YtnmchplabaoflaaDoor
open Go.ChangeShapes Go.WideShapes Go.ChangeAt Go.RowKit Go.Deep
set_option linter.unusedVariables false

theorem own_knob : ownKnob Tryd.prog.godebug = none := by kernel_rfl
theorem my_of {W : World} (h : W.ShapedOpen Tryd.prog) : My W :=
  cell_of_shapedOpen_int (g := Tryd.lays154_ren.g 1) (t := 3) (zero := #[.int .i64 0]) h (of_decide_eq_true (by kernel_rfl)) (by kernel_rfl) rfl (by kernel_rfl) (by kernel_rfl) Tryd.underlying3
/-- What the rows of this seat list; and the plain data of it. -/
def laid : List (String × DataW Unit) := [("unicode/utf8.acceptRanges", Rows.laid_unicode_utf8_acceptRanges), ("errors.errorType", Rows.laid_errors_errorType), ("unicode/utf8.first", Rows.laid_unicode_utf8_first)]
def laidD : List (String × DataW Unit) := [("unicode/utf8.acceptRanges", Rows.laid_unicode_utf8_acceptRanges), ("unicode/utf8.first", Rows.laid_unicode_utf8_first)]
/-- A world that holds the handle of the type error. -/
noncomputable def handleWorld (os : Os) : World :=
  let w0 := World.holding Tryd.prog os ⟨#[], #[], []⟩
  { w0 with heap := w0.heap.modify 0 fun
      | .cells _ t frozen => .cells #[.iface 97 (.agg #[typeHandle Tryd.prog 30])] t frozen
      | o => o }
/-- A world that meets what is listed. -/
noncomputable def laidWorld (os : Os) : World := (handleWorld os).layVars Tryd.prog laidD
theorem laidWorld_os (os : Os) : (laidWorld os).os = os := World.layVars_os _ _ _
theorem laid_data (os : Os) : laidMet Tryd.prog laidD (laidWorld os) := by
  have e1 : (laidD.filter fun x => (laidD.map (·.1)).contains x.1) = laidD := List.filter_eq_self.2 fun x hx => List.contains_iff_mem.2 (List.mem_map.2 ⟨x, hx, rfl⟩)
  have e2 : (laidD.filter fun x => !(laidD.map (·.1)).contains x.1) = [] := List.filter_eq_nil_iff.2 fun x hx => by rw [List.contains_iff_mem.2 (List.mem_map.2 ⟨x, hx, rfl⟩)]; simp
  exact laidMet_layVars (w0 := handleWorld os) (laidD.map (·.1)) [] (by rw [e1]; rfl) (by rw [e1]; kernel_rfl) (by rw [e1]; kernel_rfl) (by rw [e2]; exact LaidIn.none)
theorem laid_world (os : Os) (args : Array Value) : laidMetH Tryd.prog laid ((laidWorld os).forCall (fun _ _ => 0) ⟨#[], args, []⟩).memory :=
  laidMetH_of_parts (show laidMet Tryd.prog laidD _ from (laid_data os).of_heap (by simp [World.memory, World.forCall, Input.heap])) (by kernel_rfl)
theorem err_global : Tryd.prog.globalNamed "errors.errorType" = some 0 := by kernel_rfl
theorem err_rtype : (Tryd.prog.cutTypes.find? (·.1 == "internal/reflectlite.rtype")).map (·.2) = some 97 := by kernel_rfl
theorem err_row : ((List.range Tryd.prog.types.size).filter fun t => Tryd.prog.rowNamed t [101, 114, 114, 111, 114]) = [30] := by kernel_rfl
/-- What the listed handle gives a walk. -/
theorem et_of {W : World} (h : laidMetH Tryd.prog laid W) : Et W := by
  have h' : laidMet Tryd.prog laidD W ∧ handlesMet Tryd.prog [("errors.errorType", Rows.laid_errors_errorType)] W := h
  obtain ⟨name, u, ty, e1, e2, e3, e4, e5⟩ := h'.2 _ (List.mem_singleton.2 rfl)
  have en : name = [101, 114, 114, 111, 114] := (Option.some.inj e1).symm
  subst en
  obtain rfl := Option.some.inj (err_rtype.symm.trans e2)
  have hm : ty ∈ (List.range Tryd.prog.types.size).filter fun t => Tryd.prog.rowNamed t [101, 114, 114, 111, 114] := List.mem_filter.2 ⟨List.mem_range.2 e3, e4⟩
  rw [err_row] at hm
  obtain rfl := List.mem_singleton.1 hm
  have hh : typeHandle Tryd.prog 30 = .pointer (some ⟨4, 30, none⟩) := by kernel_rfl
  rw [hh] at e5
  unfold Et
  simpa using World.var?_cell err_global e5 0
theorem laid_out : laidOutB Tryd.prog = true := by kernel_rfl
theorem block_of_cell {w : World} {a : Addr} {u : Value} (h : w.cell? a = some u) : a.block < w.heap.size := by
  rcases Nat.lt_or_ge a.block w.heap.size with h' | h'
  · exact h'
  · exfalso
    unfold World.cell? at h
    rw [Array.getElem?_eq_none h'] at h
    simp at h

theorem cells_string : Tryd.prog.cellsOf 9 = 1 := by kernel_rfl
section
variable {H : Type} {enc : TypeId × Value → H} {W : World} {fuel : Nat}
theorem arg1_of {v : Value} {x : DataW H × List MemPlace} (h : DataW.trod enc Tryd.prog W 0 (fun _ => true) true fuel 28 [v] = some x) : ∃ ls, Arg1 W v ls := by
  rcases open_strings Tryd.underlying28 Tryd.underlying9 cells_string h with ⟨hcs, hx⟩ | ⟨a, len, cap, ss, hcs, _, hl, hm, hz, hx, hcell, hws⟩
  · injection hcs with e1 _
    subst e1
    exact ⟨[], none, 0, rfl, Reads.none_, Nat.zero_le _, fun s hs => by cases hs⟩
  · injection hcs with e1 _
    subst e1
    simp only [if_true] at hz
    have hlen : ((ss.take len).map (·.data.toList)).length = len := by rw [List.length_map, List.length_take]; omega
    refine ⟨(ss.take len).map (·.data.toList), some a, cap, by rw [hlen], ?_, by omega, ?_⟩
    · rw [hlen]
      refine ⟨by rw [List.length_map, hlen, Nat.mul_one], fun h0 => ⟨a, rfl, ?_, fun j u hu => ?_⟩⟩
      · have := block_of_cell (hcell 0 (by omega))
        rwa [block_of_add] at this
      · rw [List.getElem?_map, List.getElem?_map, List.getElem?_take] at hu
        split at hu
        · rename_i hj
          rw [hcell j (by omega)]
          rw [List.getElem?_eq_getElem (by omega)] at hu
          simp only [Option.map_some, Option.some.injEq] at hu
          rw [← hu]
          unfold sv
          rw [bs_eta]
          congr 2
          simp [List.getD, List.getElem?_eq_getElem (show j < ss.length by omega)]
        · simp at hu
    · intro s hs
      obtain ⟨b, hb, rfl⟩ := List.mem_map.mp hs
      rw [bs_len]
      exact hws b (List.mem_of_mem_take hb)
end
variable {H : Type} {enc : TypeId × Value → H}
section
variable {W : World}
theorem trodAll_below {W' : World} (hb : Below W.heap.size W W') : ∀ {ts : List TypeId} {vs : List Value} {ds : List (DataW H)} {ps : List MemPlace},
    (∀ t ∈ ts, Tryd.prog.readableRec t = true ∧ t < Tryd.prog.types.size) → DataW.TrodAll enc Tryd.prog W 0 (fun _ => true) true ts vs ds ps → (∀ x ∈ ps, x.block < W.heap.size) →
    DataW.TrodAll enc Tryd.prog W' 0 (fun b => decide (b < W.heap.size)) true ts vs ds ps
  | [], _, _, _, _, h, _ => by
    obtain ⟨rfl, rfl, rfl⟩ := trodAll_nil h
    exact trodAll_mk0
  | t :: ts, _, _, _, ht, h, hlt => by
    obtain ⟨v, vs, d, ds, p, q, rfl, rfl, rfl, h1, h2⟩ := trodAll_cons h
    refine trodAll_cons_mk (Below.trod laid_out (ht t (by simp)).1 (ht t (by simp)).2 h1 hb (fun x hx => hlt x (by simp [hx]))) (trodAll_below hb (fun u hu => ht u (by simp [hu])) h2 (fun x hx => hlt x (by simp [hx])))
end
set_option maxRecDepth 100000 in
/-- The wrap: the listed variables' condition, and the world's shape, for the contract. -/
theorem wrap {os : Os} {f : FuncId} {fn : Func} {s : ChangeSpec} {conds : List PathCond} {apart fresh handsOn again : Bool} (started : os.Started) (noInit : Tryd.checked.prog.inits.idxOf? f = none) (hfn : Tryd.checked.prog.funcs[f]? = some fn)
    (witness : ∃ (w : World) (tape : Tape) (i : Input), w.os = os ∧ (w.forCall tape i).Shaped Tryd.checked.prog ∧ i.vars = [] ∧ Input.okWide Tryd.checked.prog (w.forCall tape i) .any w.heap.size f i ∧
      ((s.pre enc Tryd.checked.prog fn conds apart (w.forCall tape i).memory i.args ∧ laidMetH Tryd.checked.prog laid (w.forCall tape i).memory) ∧ sizedMet enc Tryd.checked.prog fn (OpenSpec.ofChange s) apart (w.forCall tape i).memory i.args) ∧ ({} : Assume).holds Tryd.checked.prog (lone (Frame.enter Tryd.checked.prog f i.args .normal) [] (w.forCall tape i)))
    (con : ∀ (W : World) (base : Nat) (args : Array Value) (ds gs : List (DataW H)) (before : List MemPlace),
      (∀ (j : Nat) t v, fn.params[j]? = some t → args[j]? = some v → Value.okWide Tryd.checked.prog W .any base t v) →
      DataW.Whole enc Tryd.checked.prog fn.params.toList s.vars apart W args.toList ds gs before → laidMetH Tryd.checked.prog laid W → W.ShapedOpen Tryd.checked.prog →
      Calls Tryd.checked.prog f args W fun e W' => ∃ v, e = .returned v ∧ s.post enc Tryd.checked.prog fn apart fresh handsOn again W args v W') :
    ReturnsInHanded {} Tryd.checked os f .any (fun w args => (s.pre enc Tryd.checked.prog fn conds apart w args ∧ laidMetH Tryd.checked.prog laid w) ∧ sizedMet enc Tryd.checked.prog fn (OpenSpec.ofChange s) apart w args) (s.post enc Tryd.checked.prog fn apart fresh handsOn again) := by
  refine returnsInHanded_of_calls own_knob started noInit witness ?_
  intro w tape i _ hsh _ hok hpre hholds
  obtain ⟨_, _, _, g, hg, _, _, _, _, hval⟩ := hok
  obtain rfl : g = fn := Option.some.inj (hg.symm.trans hfn)
  obtain ⟨⟨⟨ds, gs, before, hw, _⟩, hx⟩, _⟩ := hpre
  refine (con (w.forCall tape i) w.heap.size i.args ds gs before hval (DataW.Whole.of_heap (w' := w.forCall tape i) (by rfl) hw) (hx.of_heap (by rfl)) hsh).mono fun e W' h => ?_
  obtain ⟨v, rfl, hp⟩ := h
  exact ChangeSpec.post_blind hp
end Go.Proofs.YtnmchplabaoflaaDoor
