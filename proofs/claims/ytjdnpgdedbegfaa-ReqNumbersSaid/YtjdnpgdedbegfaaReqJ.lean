/- The library's bytes.Index and bytes.IndexByte, by the shelf's contracts, in our words. -/
import Derived.Test.YtjdnpgdedbegfaaReqZ
import Derived.Test.YtjdnpgdedbegfaaReqI
import Derived.Ground.NamesProg
import Derived.Shelf.Lay
import Derived.Shelf.Bytes.SlIndexWhole
import Derived.Shelf.Bytes.IndexByte
import Derived.Lib.SlBytesConst
namespace Go.Proofs
open Go.Shelf
shelf_lay LaysM.n185 Nm 185 at Try as Try.laysM185
shelf_lay Lays.n187 Nm 187 at Try as Try.lays187
end Go.Proofs
namespace Go.Proofs.Ytjdnpgdedbegfaa
open Go.RowKit Go.Shelf
set_option linter.unusedVariables false

/-- The cell of the library's own variable holds some number. -/
def Mx (w : World) : Prop := ∃ m : Int, w.cell? ⟨Try.laysM185_ren.g 1, 0, none⟩ = some (.int .i64 m)
theorem Mx.lt {w : World} (h : Mx w) : Try.laysM185_ren.g 1 < w.heap.size := by
  obtain ⟨m, hm⟩ := h
  rcases Nat.lt_or_ge (Try.laysM185_ren.g 1) w.heap.size with h' | h'
  · exact h'
  · simp [World.cell?, Array.getElem?_eq_none h'] at hm
theorem Mx.below {w w' : World} {B : Nat} (h : Mx w) (hb : Below B w w') (hB : Try.laysM185_ren.g 1 < B) : Mx w' := by
  obtain ⟨m, hm⟩ := h
  exact ⟨m, (hb.cell (p := ⟨Try.laysM185_ren.g 1, 0, none⟩) hB).trans hm⟩
theorem Mx.below_ {w w' : World} (h : Mx w) (hb : Below w.heap.size w w') : Mx w' := h.below hb h.lt
theorem Mx.drewN {w : World} (h : Mx w) (q : Nat) : Mx (w.drewN q) := h
theorem Mx.drew {w : World} (h : Mx w) : Mx w.drew := h
theorem Mx.alloc {w : World} (h : Mx w) (o : Obj) : Mx (w.alloc o) := by
  obtain ⟨m, hm⟩ := h
  exact ⟨m, Lib.cell?_alloc_marked o hm⟩

/-- Cells as the shelf's contracts ask for them. -/
theorem shelf_cells {w : World} {B n : Nat} {a : Addr} {l : List UInt8} (h : Reads w B 1 (some a) n (bv l)) (hn : n = l.length) :
    ∀ i, i < n → w.cell? (a.add i) = some (.int .u8 ((l.map fun c => (c.toNat : Int)).getD i 0)) := by
  intro i hi
  obtain ⟨ad, u, h1, h2, h3, h4⟩ := h.at_ hi
  injection h1 with h1
  subst h1
  rw [h4]
  rw [bv_get l i (by omega)] at h3
  injection h3 with h3
  rw [← h3]
  congr 2
  rw [List.getD_eq_getElem?_getD, List.getElem?_map, List.getElem?_eq_getElem (by omega)]
  rfl
theorem shelf_range (l : List UInt8) : ∀ x ∈ (l.map fun c => (c.toNat : Int)), 0 ≤ x ∧ x < 256 := by
  intro x hx
  obtain ⟨c, _, rfl⟩ := List.mem_map.mp hx
  have := UInt8.toNat_lt c
  omega

theorem index_any {w : World} {B B2 n c : Nat} {a a2 : Addr} {l : List UInt8} (h : Reads w B 1 (some a) n (bv l)) (hn : n = l.length) (hc : n ≤ c) (hs : n < 4294967281) (h2 : Reads w B2 1 (some a2) 2 (bv [13, 10])) (hm : Mx w) :
    Calls Try.prog 47 #[.slice (some a) n c, .slice (some a2) 2 2] w fun e w' => e = .returned (.int .i64 (placed (Rq.crlf l))) ∧ ∃ q, w' = w.drewN q := by
  obtain ⟨m, hm⟩ := hm
  have := Any.bytes_Index_at { Try.laysM185 with } a a2 n c 2 2 (l.map fun c => (c.toNat : Int)) [13, 10] m w (by rw [List.length_map]; exact hn.symm) rfl (shelf_range l) (by intro y hy; simp at hy; rcases hy with rfl | rfl <;> omega) (shelf_cells h hn) (shelf_cells h2 rfl) hc hs (by decide) hm
  rw [bytesOf_nums, show Lib.bytesOf [13, 10] = [13, 10] from by decide, index_crlf] at this
  exact this
theorem indexByte_any {w : World} {B n c : Nat} {a : Addr} {l : List UInt8} (h : Reads w B 1 (some a) n (bv l)) (hn : n = l.length) (hp : a = ⟨a.block, a.off, none⟩) :
    Calls Try.prog 37 #[.slice (some a) n c, .int .u8 10] w fun e w' => e = .returned (.int .i64 (placed (Rq.idx 10 l))) ∧ w' = w := by
  obtain ⟨b, o, sp⟩ := a
  injection hp with _ _ hp
  subst hp
  have := Any.bytes_IndexByte Try.lays187 b o n c (l.map fun c => (c.toNat : Int)) 10 w (by rw [List.length_map]; exact hn.symm) (fun i hi => by rw [← Lib.add_plain']; exact shelf_cells h hn i hi)
  rw [bytesOf_nums] at this
  rw [← indexByte_idx]
  exact this
end Go.Proofs.Ytjdnpgdedbegfaa
