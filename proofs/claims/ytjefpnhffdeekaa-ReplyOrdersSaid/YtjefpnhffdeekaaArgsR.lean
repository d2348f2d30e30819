/- Slices of Nodes (package tallboylaw17) as they come in; what nobody wrote reads as it did. -/
import Derived.Test.YtjefpnhffdeekaaRplU
import Derived.ProofKit
import Derived.OpenShut
import Derived.ShutString
import Derived.ChangeOld
import Derived.Below
import Derived.HandedShaped
import Derived.Deep.Slices
import Derived.Carry
import Derived.Lib.SmallJoins
import Derived.Deep.Strs
namespace Go.Proofs.Ytjefpnhffdeekaa
open Go.ChangeShapes Go.WideShapes Go.ChangeAt Go.RowKit Go.Deep Go.Joins
set_option linter.unusedVariables false

theorem own_knob : ownKnob Try.prog.godebug = none := by kernel_rfl
theorem laid_out : laidOutB Try.prog = true := by kernel_rfl
theorem block_of_cell {w : World} {a : Addr} {u : Value} (h : w.cell? a = some u) : a.block < w.heap.size := by
  rcases Nat.lt_or_ge a.block w.heap.size with h' | h'
  · exact h'
  · exfalso
    unfold World.cell? at h
    rw [Array.getElem?_eq_none h'] at h
    simp at h

theorem cells_node : Try.prog.cellsOf 33 = 4 := by kernel_rfl
section
variable {H : Type} {enc : TypeId × Value → H} {W : World} {fuel : Nat}
set_option maxRecDepth 100000 in
theorem rgN_of {v : Value} {x : DataW H × List MemPlace} (h : DataW.trod enc Try.prog W 0 (fun _ => true) true fuel 22 [v] = some x) : ∃ n, ArgN W v n := by
  rcases open_slice Try.underlying22 h with ⟨hcs, hx⟩ | ⟨a, len, cap, m, n, D, Pl, hcs, _, hl, hm, hz, hx, hcell⟩
  · injection hcs with e1 _
    subst e1
    exact ⟨0, none, 0, rfl, Nat.zero_le _, fun k hk => by omega⟩
  · injection hcs with e1 _
    subst e1
    simp only [if_true] at hz
    subst hz
    refine ⟨len, some a, m, rfl, by omega, fun k hk => ?_⟩
    obtain ⟨cs', h1, h2⟩ := hcell k (by omega)
    rw [cells_node] at h1
    obtain ⟨_, hlen, hc⟩ := World.cells?_some h1
    obtain ⟨y0, y1, y2, y3, n', _, _, t0, t1, t2, t3⟩ := trod_struct4 Try.underlying33 h2
    match cs', hlen with
    | [u0, u1, u2, u3], _ =>
      have c0 := hc 0 (by omega)
      have c1 := hc 1 (by omega)
      have c2 := hc 2 (by omega)
      have c3 := hc 3 (by omega)
      obtain ⟨kd, e0, _, w0⟩ := DataW.trod_int Try.underlying3 t0
      obtain ⟨pt, e1, _, w1⟩ := DataW.trod_int Try.underlying3 t1
      obtain ⟨nn, e2, _, w2⟩ := DataW.trod_int Try.underlying2 t2
      obtain ⟨s, e3, _, w3⟩ := DataW.trod_string Try.underlying9 t3
      injection e0 with e0 _
      injection e1 with e1 _
      injection e2 with e2 _
      injection e3 with e3 _
      subst e0; subst e1; subst e2; subst e3
      refine ⟨a, kd, pt, nn, s, rfl, ?_, c0, c1, c2, c3, bounds_i64 w0, bounds_i64 w1, bounds_i64 w2, w3⟩
      have := block_of_cell c0
      rwa [block_of_add, block_of_add] at this
theorem trodAll_below {W' : World} (hb : Below W.heap.size W W') : ∀ {ts : List TypeId} {vs : List Value} {ds : List (DataW H)} {ps : List MemPlace},
    (∀ t ∈ ts, Try.prog.readableRec t = true ∧ t < Try.prog.types.size) → DataW.TrodAll enc Try.prog W 0 (fun _ => true) true ts vs ds ps → (∀ x ∈ ps, x.block < W.heap.size) →
    DataW.TrodAll enc Try.prog W' 0 (fun b => decide (b < W.heap.size)) true ts vs ds ps
  | [], _, _, _, _, h, _ => by
    obtain ⟨rfl, rfl, rfl⟩ := trodAll_nil h
    exact trodAll_mk0
  | t :: ts, _, _, _, ht, h, hlt => by
    obtain ⟨v, vs, d, ds, p, q, rfl, rfl, rfl, h1, h2⟩ := trodAll_cons h
    refine trodAll_cons_mk (Below.trod laid_out (ht t (by simp)).1 (ht t (by simp)).2 h1 hb (fun x hx => hlt x (by simp [hx]))) (trodAll_below hb (fun u hu => ht u (by simp [hu])) h2 (fun x hx => hlt x (by simp [hx])))
end
end Go.Proofs.Ytjefpnhffdeekaa
