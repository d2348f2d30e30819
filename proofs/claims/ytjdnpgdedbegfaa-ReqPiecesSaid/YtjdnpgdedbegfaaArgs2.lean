/- Slices of numbers and of Parts (package tallboylaw19) as they come in. -/
import Derived.Test.YtjdnpgdedbegfaaArgs
import Derived.Test.YtjdnpgdedbegfaaLaw19e
import Derived.Deep.Strs
namespace Go.Proofs.Ytjdnpgdedbegfaa
open Go.ChangeShapes Go.WideShapes Go.ChangeAt Go.RowKit Go.Deep
set_option linter.unusedVariables false

theorem cells_int : Try.prog.cellsOf 3 = 1 := by kernel_rfl
theorem cells_part : Try.prog.cellsOf 47 = 3 := by kernel_rfl
section
variable {H : Type} {enc : TypeId × Value → H} {W : World} {fuel : Nat}
theorem ints_of {v : Value} {x : DataW H × List MemPlace} (h : DataW.trod enc Try.prog W 0 (fun _ => true) true fuel 23 [v] = some x) : ∃ n, ArgI W v n := by
  rcases open_ints Try.underlying23 Try.underlying3 cells_int h with ⟨hcs, hx⟩ | ⟨a, len, cap, zs, hcs, _, hl, hm, hz, hx, hcell, hws⟩
  · injection hcs with e1 _
    subst e1
    exact ⟨0, none, 0, rfl, Nat.zero_le _, fun k hk => by omega⟩
  · injection hcs with e1 _
    subst e1
    simp only [if_true] at hz
    refine ⟨len, some a, cap, rfl, by omega, fun k hk => ?_⟩
    have hc := hcell k (by omega)
    have hw := hws (zs.getD k 0) (by rw [List.getD, List.getElem?_eq_getElem (by omega)]; exact List.getElem_mem _)
    refine ⟨a, zs.getD k 0, rfl, ?_, hc, (bounds_i64 hw).1, (bounds_i64 hw).2⟩
    have := block_of_cell hc
    rwa [block_of_add] at this
theorem part_of {v : Value} {x : DataW H × List MemPlace} (h : DataW.trod enc Try.prog W 0 (fun _ => true) true fuel 22 [v] = some x) : ∃ n, ArgP W v n := by
  rcases open_slice Try.underlying22 h with ⟨hcs, hx⟩ | ⟨a, len, cap, m, n, D, Pl, hcs, _, hl, hm, hz, hx, hcell⟩
  · injection hcs with e1 _
    subst e1
    exact ⟨0, none, 0, rfl, Nat.zero_le _, fun k hk => by omega⟩
  · injection hcs with e1 _
    subst e1
    simp only [if_true] at hz
    subst hz
    refine ⟨len, some a, m, rfl, by omega, fun k hk => ?_⟩
    obtain ⟨cs', h1, h2⟩ := hcell k (by omega)
    rw [cells_part] at h1
    obtain ⟨_, hlen, hc⟩ := World.cells?_some h1
    obtain ⟨y0, y1, y2, n', _, _, t0, t1, t2⟩ := trod_struct3 Try.underlying47 h2
    match cs', hlen with
    | [u0, u1, u2], _ =>
      have c0 := hc 0 (by omega)
      have c1 := hc 1 (by omega)
      have c2 := hc 2 (by omega)
      rw [add_of_add] at c0 c1 c2
      obtain ⟨kd, e0, _, _⟩ := DataW.trod_int Try.underlying3 t0
      obtain ⟨s, e2, _, hs⟩ := DataW.trod_string Try.underlying9 t2
      obtain ⟨ls, harg⟩ := arg1_of (v := u1) t1
      injection e0 with e0 _
      injection e2 with e2 _
      subst e0; subst e2
      refine ⟨a, kd, u1, ls, s, rfl, ?_, c0, c1, harg, c2, hs⟩
      have := block_of_cell c0
      rwa [block_of_add] at this
end
end Go.Proofs.Ytjdnpgdedbegfaa
