/- fault.New, Wrap, Code, Cmd, Depth over chains of Faults. -/
import Derived.Test.YtnmchplabaoflaaGreatDoorFltB
import Derived.Deep.RegionHeld
namespace Go.Proofs.YtnmchplabaoflaaGreatDoor
open Go.RowKit
set_option linter.unusedVariables false

/-- errors.errorType holds the type error's handle. -/
def Et (w : World) : Prop := w.cell? ⟨0, 0, none⟩ = some (.iface 106 (.agg #[.pointer (some ⟨4, 29, none⟩)]))
theorem Et.lt {w : World} (h : Et w) : 0 < w.heap.size := by
  unfold Et at h
  rcases Nat.eq_zero_or_pos w.heap.size with h0 | h1
  · simp [World.cell?, h0] at h
  · exact h1
theorem Et.below_ {w w' : World} (h : Et w) (hb : Below w.heap.size w w') : Et w' := (hb.cell h.lt).trans h
/-- What errors.As leaves: the target's cell holds what was found, nothing else below has turned. -/
structure AsSet (t : Addr) (v : Value) (w w' : World) : Prop where
  cell : w'.cell? t = some v
  frozen : w'.frozen? t = false
  below : ∀ B, B ≤ t.block → B ≤ w.heap.size → Below B w w'
  other : ∀ p : Addr, p.block < w.heap.size → p.block ≠ t.block → w'.cell? p = w.cell? p ∧ w'.frozen? p = w.frozen? p
theorem lt_of_cell {w : World} {t : Addr} {u : Value} (h : w.cell? t = some u) : t.block < w.heap.size := by
  rcases Nat.lt_or_ge t.block w.heap.size with h' | h'
  · exact h'
  · simp [World.cell?, Array.getElem?_eq_none h'] at h
theorem asSet_of {w w4 : World} {t : Addr} {old v : Value} (hb : Below w.heap.size w w4) (ht : w.cell? t = some old) (hf : w.frozen? t = false) : AsSet t v w (w4.setCell t v) :=
  ⟨World.cell?_setCell_same _ _ _ ((hb.cell (lt_of_cell ht)).trans ht), (World.frozen?_setCell _ _ _ _).trans ((hb.frozen (lt_of_cell ht)).trans hf), fun B h1 h2 => (hb.mono h2).setCell h1 v, fun p h1 h2 => ⟨(Go.World.cell?_setCell_far w4 t p v (Ne.symm h2)).trans (hb.cell h1), (World.frozen?_setCell _ _ _ _).trans (hb.frozen h1)⟩⟩
theorem below4 (w : World) (a b c d : Obj) : Below w.heap.size w ((((w.alloc a).alloc b).alloc c).alloc d) :=
  ((((Below.refl _ w).alloc (Nat.le_refl _) a).alloc (by simp) b).alloc (by simp; omega) c).alloc (by simp; omega) d
theorem below3 (w : World) (a b c : Obj) : Below w.heap.size w (((w.alloc a).alloc b).alloc c) :=
  (((Below.refl _ w).alloc (Nat.le_refl _) a).alloc (by simp) b).alloc (by simp; omega) c
/-- The value of a Code as an error. -/
def cd (c : Int) : Value := .iface 26 (.int .i64 c)
theorem as_code' (c : Int) (l : List (Nat × List UInt8)) (t : Addr) (old : Value) (w : World) (hch : Chn w (cd c) l) (hg : Et w) (ht : w.cell? t = some old) (hf : w.frozen? t = false) :
    Calls Tryz.prog 44 #[ev (cd c) l, .iface 68 (.pointer (some t))] w fun ev w' => ev = .returned (.bool true) ∧ AsSet t (.int .i64 c) w w' :=
  (as_code c l t old w hch hg ht hf).mono fun ev w' ⟨h1, h2⟩ => ⟨h1, h2 ▸ asSet_of (below4 ..) ht hf⟩
theorem ev_iface {E0 : Value} (h : ∃ u v, E0 = .iface u v) : ∀ l, ∃ u v, ev E0 l = .iface u v
  | [] => h
  | (g, s) :: r => ⟨_, _, rfl⟩

/-- fault.Code tells k of each chain over E0. -/
def CodeIs (E0 : Value) (k : Int) : Prop := ∀ l w, Chn w E0 l → Et w → Calls Tryz.prog 22 #[ev E0 l] w fun e w' => e = .returned (.int .i64 k) ∧ Below w.heap.size w w'

set_option maxRecDepth 100000 in
theorem code_nil (w : World) : Calls Tryz.prog 22 #[.nilIface] w fun e w' => e = .returned (.int .i64 0) ∧ Below w.heap.size w w' := by
  go_enter Tryz.func22, Tryz.ntmps22
  go_wp2
  go_ret
  exact ⟨rfl, (Below.refl _ _).alloc (Nat.le_refl _) _⟩

set_option maxRecDepth 100000 in
theorem code_chain (c : Int) : CodeIs (cd c) c := by
  intro l w hch hg
  have b1 : ∀ o, Below w.heap.size w (w.alloc o) := fun o => (Below.refl _ w).alloc (Nat.le_refl _) o
  have HC := Lib.hid (as_code' c l ⟨w.heap.size, 0, none⟩ (.int .i64 0) (w.alloc (.cells #[.int .i64 0] 26)) (hch.below (b1 _)) (hg.below_ (b1 _)) (by simp) (by simp))
  have B1 := Lib.hid (b1 (.cells #[.int .i64 0] 26))
  obtain ⟨u, v, hu⟩ := ev_iface ⟨_, _, rfl⟩ l (E0 := cd c)
  rw [hu] at HC ⊢
  clear hu hch hg b1
  go_enter Tryz.func22, Tryz.ntmps22
  go_wp2_with fail
  refine HC.out.mono ?_
  rintro e w1 ⟨rfl, h1, h2, h3⟩
  have H3 := Lib.hid (h3 w.heap.size (by simp) (by simp))
  clear h3
  go_wp2
  go_ret
  exact ⟨rfl, B1.out.trans H3.out⟩

set_option maxRecDepth 100000 in
theorem new_ok (s : ByteArray) (w : World) : Calls Tryz.prog 9 #[.string s, .int .i64 0] w fun e w' => e = .returned .nilIface ∧ w = w' := by
  go_enter Tryz.func9, Tryz.ntmps9
  go_wp2
  go_ret
  exact ⟨rfl, rfl⟩
set_option maxRecDepth 100000 in
theorem new_any (s : List UInt8) (c : Int) (w : World) (hc : c ≠ 0) :
    Calls Tryz.prog 9 #[sv s, .int .i64 c] w fun e w' => ∃ g, e = .returned (ev (cd c) [(g, s)]) ∧ Chn w' (cd c) [(g, s)] ∧ Below w.heap.size w w' := by
  go_enter Tryz.func9, Tryz.ntmps9
  go_wp2
  go_ret
  exact ⟨w.heap.size, rfl, ⟨Blk.new _ _ _, trivial⟩, (Below.refl _ _).alloc (Nat.le_refl _) _⟩

end Go.Proofs.YtnmchplabaoflaaGreatDoor
