/- Slices of Nodes (package tallboylaw18) as they come in. -/
import Derived.Test.YtjdnpgdedbegfaaDoorDoor
import Derived.Test.YtjdnpgdedbegfaaDoorRspW
import Derived.Lib.SmallJoins
import Derived.Deep.Strs
namespace Go.Proofs.YtjdnpgdedbegfaaDoor
open Go.ChangeShapes Go.WideShapes Go.ChangeAt Go.RowKit Go.Deep Go.Joins
set_option linter.unusedVariables false

theorem cells_node : Tryd.prog.cellsOf 57 = 4 := by kernel_rfl
section
variable {H : Type} {enc : TypeId × Value → H} {W : World} {fuel : Nat}
set_option maxRecDepth 100000 in
theorem argN_of {v : Value} {x : DataW H × List MemPlace} (h : DataW.trod enc Tryd.prog W 0 (fun _ => true) true fuel 33 [v] = some x) : ∃ n, ArgN W v n := by
  rcases open_slice Tryd.underlying33 h with ⟨hcs, hx⟩ | ⟨a, len, cap, m, n, D, Pl, hcs, _, hl, hm, hz, hx, hcell⟩
  · injection hcs with e1 _
    subst e1
    exact ⟨0, none, 0, rfl, Nat.zero_le _, fun k hk => by omega⟩
  · injection hcs with e1 _
    subst e1
    simp only [if_true] at hz
    subst hz
    refine ⟨len, some a, m, rfl, by omega, fun k hk => ?_⟩
    obtain ⟨cs', h1, h2⟩ := hcell k (by omega)
    rw [cells_node] at h1
    obtain ⟨_, hlen, hc⟩ := World.cells?_some h1
    obtain ⟨y0, y1, y2, y3, n', _, _, t0, t1, t2, t3⟩ := trod_struct4 Tryd.underlying57 h2
    match cs', hlen with
    | [u0, u1, u2, u3], _ =>
      have c0 := hc 0 (by omega)
      have c1 := hc 1 (by omega)
      have c2 := hc 2 (by omega)
      have c3 := hc 3 (by omega)
      obtain ⟨kd, e0, _, w0⟩ := DataW.trod_int Tryd.underlying3 t0
      obtain ⟨pt, e1, _, w1⟩ := DataW.trod_int Tryd.underlying3 t1
      obtain ⟨nn, e2, _, w2⟩ := DataW.trod_int Tryd.underlying2 t2
      obtain ⟨s, e3, _, w3⟩ := DataW.trod_string Tryd.underlying9 t3
      injection e0 with e0 _
      injection e1 with e1 _
      injection e2 with e2 _
      injection e3 with e3 _
      subst e0; subst e1; subst e2; subst e3
      refine ⟨a, kd, pt, nn, s, rfl, ?_, c0, c1, c2, c3, bounds_i64 w0, bounds_i64 w1, bounds_i64 w2, w3⟩
      have := block_of_cell c0
      rwa [block_of_add, block_of_add] at this
end
end Go.Proofs.YtjdnpgdedbegfaaDoor
