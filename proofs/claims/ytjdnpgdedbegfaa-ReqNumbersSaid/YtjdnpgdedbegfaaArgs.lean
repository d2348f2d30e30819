/- Slices of strings, slices of such slices, as they come in: from the reading of the data to facts on memory; and back: what nobody wrote reads as it did. -/
import Derived.Test.YtjdnpgdedbegfaaLaw19a
import Derived.ProofKit
import Derived.OpenShut
import Derived.ShutString
import Derived.ChangeOld
import Derived.Below
import Derived.HandedShaped
import Derived.Deep.Slices
import Derived.Carry
namespace Go.Proofs.Ytjdnpgdedbegfaa
open Go.ChangeShapes Go.WideShapes Go.ChangeAt Go.RowKit Go.Deep
set_option linter.unusedVariables false

theorem own_knob : ownKnob Try.prog.godebug = none := by kernel_rfl
theorem laid_out : laidOutB Try.prog = true := by kernel_rfl
theorem cells_string : Try.prog.cellsOf 9 = 1 := by kernel_rfl
theorem cells_strings : Try.prog.cellsOf 33 = 1 := by kernel_rfl

theorem block_of_cell {w : World} {a : Addr} {u : Value} (h : w.cell? a = some u) : a.block < w.heap.size := by
  rcases Nat.lt_or_ge a.block w.heap.size with h' | h'
  · exact h'
  · exfalso
    unfold World.cell? at h
    rw [Array.getElem?_eq_none h'] at h
    simp at h

section
variable {H : Type} {enc : TypeId × Value → H} {W : World} {fuel : Nat}
theorem arg1_of {v : Value} {x : DataW H × List MemPlace} (h : DataW.trod enc Try.prog W 0 (fun _ => true) true fuel 33 [v] = some x) : ∃ ls, Arg1 W v ls := by
  rcases open_strings Try.underlying33 Try.underlying9 cells_string h with ⟨hcs, hx⟩ | ⟨a, len, cap, ss, hcs, _, hl, hm, hz, hx, hcell, hws⟩
  · injection hcs with e1 _
    subst e1
    exact ⟨[], none, 0, rfl, Reads.none_, Nat.zero_le _, fun s hs => by cases hs⟩
  · injection hcs with e1 _
    subst e1
    simp only [if_true] at hz
    have hlen : ((ss.take len).map (·.data.toList)).length = len := by rw [List.length_map, List.length_take]; omega
    refine ⟨(ss.take len).map (·.data.toList), some a, cap, by rw [hlen], ?_, by omega, ?_⟩
    · rw [hlen]
      refine ⟨by rw [List.length_map, hlen, Nat.mul_one], fun h0 => ⟨a, rfl, ?_, fun j u hu => ?_⟩⟩
      · have := block_of_cell (hcell 0 (by omega))
        rwa [block_of_add] at this
      · rw [List.getElem?_map, List.getElem?_map, List.getElem?_take] at hu
        split at hu
        · rename_i hj
          rw [hcell j (by omega)]
          rw [List.getElem?_eq_getElem (by omega)] at hu
          simp only [Option.map_some, Option.some.injEq] at hu
          rw [← hu]
          unfold sv
          rw [bs_eta]
          congr 2
          simp [List.getD, List.getElem?_eq_getElem (show j < ss.length by omega)]
        · simp at hu
    · intro s hs
      obtain ⟨b, hb, rfl⟩ := List.mem_map.mp hs
      rw [bs_len]
      exact hws b (List.mem_of_mem_take hb)
theorem arg2_of {v : Value} {x : DataW H × List MemPlace} (h : DataW.trod enc Try.prog W 0 (fun _ => true) true fuel 26 [v] = some x) : ∃ ls, Arg2 W v ls := by
  rcases open_slice1 Try.underlying26 cells_strings h with ⟨hcs, hx⟩ | ⟨a, len, cap, m, n, V, D, Pl, hcs, _, hl, hm, hz, hx, hcell⟩
  · injection hcs with e1 _
    subst e1
    exact ⟨[], none, 0, rfl, Nat.zero_le _, fun k hk => by simp at hk⟩
  · injection hcs with e1 _
    subst e1
    simp only [if_true] at hz
    subst hz
    have hex : ∀ i, i < len → ∃ ls, Arg1 W (V i) ls := fun i hi => arg1_of (hcell i (by omega)).2
    obtain ⟨L, hL⟩ := choose_lt (α := List (List UInt8)) hex
    have hlen : ((List.range len).map L).length = len := by simp
    refine ⟨(List.range len).map L, some a, m, by rw [hlen], by omega, fun k hk => ?_⟩
    rw [hlen] at hk
    have hc := (hcell k (by omega)).1
    refine ⟨a, V k, rfl, ?_, hc, ?_⟩
    · have := block_of_cell hc
      rwa [block_of_add] at this
    · simpa using hL k hk
theorem trodAll_below {W' : World} (hb : Below W.heap.size W W') : ∀ {ts : List TypeId} {vs : List Value} {ds : List (DataW H)} {ps : List MemPlace},
    (∀ t ∈ ts, Try.prog.readableRec t = true ∧ t < Try.prog.types.size) → DataW.TrodAll enc Try.prog W 0 (fun _ => true) true ts vs ds ps → (∀ x ∈ ps, x.block < W.heap.size) →
    DataW.TrodAll enc Try.prog W' 0 (fun b => decide (b < W.heap.size)) true ts vs ds ps
  | [], _, _, _, _, h, _ => by
    obtain ⟨rfl, rfl, rfl⟩ := trodAll_nil h
    exact trodAll_mk0
  | t :: ts, _, _, _, ht, h, hlt => by
    obtain ⟨v, vs, d, ds, p, q, rfl, rfl, rfl, h1, h2⟩ := trodAll_cons h
    refine trodAll_cons_mk (Below.trod laid_out (ht t (by simp)).1 (ht t (by simp)).2 h1 hb (fun x hx => hlt x (by simp [hx]))) (trodAll_below hb (fun u hu => ht u (by simp [hu])) h2 (fun x hx => hlt x (by simp [hx])))
end
end Go.Proofs.Ytjdnpgdedbegfaa
