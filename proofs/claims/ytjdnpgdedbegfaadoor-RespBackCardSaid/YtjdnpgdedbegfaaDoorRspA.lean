/- The library's strings.ReplaceAll and slices.Clone, by the shelf's contracts, in our words; the walk of resp's line. -/
import Derived.Test.YtjdnpgdedbegfaaDoorRepO
import Derived.Ground.NamesProg
import Derived.Shelf.Lay
import Derived.Shelf.Strings.Replace
import Derived.Lib.SlBytesConst
namespace Go.Proofs
open Go.Shelf
shelf_lay Lays.n155 Nm 155 at Tryd as Tryd.lays155
theorem Tryd.extra155 : Builder.Extra Tryd.prog Tryd.lays155_ren where
  sizeBuilder := by kernel_rfl
  liesBuilder := by kernel_rfl
  t5 := Tryd.lays155.t5
  a5 := Tryd.lays155.a5
  z5 := Tryd.lays155.z5
  v5 := Tryd.lays155.v5
  infoByte := by kernel_rfl
  cellsByte := by kernel_rfl
  sizeByte := by kernel_rfl
  neB5 := by decide
end Go.Proofs
namespace Go.Proofs.YtjdnpgdedbegfaaDoor
open Go.RowKit Go.Shelf
set_option linter.unusedVariables false

/-- The cell of the library's own variable holds some number. -/
def My (w : World) : Prop := ∃ m : Int, w.cell? ⟨Tryd.lays155_ren.g 1, 0, none⟩ = some (.int .i64 m)
theorem My.lt {w : World} (h : My w) : Tryd.lays155_ren.g 1 < w.heap.size := by
  obtain ⟨m, hm⟩ := h
  rcases Nat.lt_or_ge (Tryd.lays155_ren.g 1) w.heap.size with h' | h'
  · exact h'
  · simp [World.cell?, Array.getElem?_eq_none h'] at hm
theorem My.below {w w' : World} {B : Nat} (h : My w) (hb : Below B w w') (hB : Tryd.lays155_ren.g 1 < B) : My w' := by
  obtain ⟨m, hm⟩ := h
  exact ⟨m, (hb.cell (p := ⟨Tryd.lays155_ren.g 1, 0, none⟩) hB).trans hm⟩
theorem My.below_ {w w' : World} (h : My w) (hb : Below w.heap.size w w') : My w' := h.below hb h.lt
theorem My.drewN {w : World} (h : My w) (q : Nat) : My (w.drewN q) := h
theorem My.drew {w : World} (h : My w) : My w.drew := h
theorem My.alloc {w : World} (h : My w) (o : Obj) : My (w.alloc o) := h.below_ ((Below.refl _ _).alloc (Nat.le_refl _) o)

def one (c d x : UInt8) : UInt8 := if x = c then d else x
theorem replace_one (c d : UInt8) : ∀ l : List UInt8, Lib.replaceK [c] [d] (l.count c) l = l.map (one c d)
  | [] => rfl
  | b :: l => by
    have ih := replace_one c d l
    by_cases hb : b = c
    · subst hb
      rw [List.count_cons_self]
      rw [Lib.replaceK_hit [b] [d] _ _ 0 (by rw [Lib.index_one]; simp [Lib.indexByte])]
      simp [one, ih]
    · rw [List.count_cons_of_ne hb]
      rw [List.map_cons, ← ih]
      have e : one c d b = b := if_neg hb
      rw [e]
      cases hk : l.count c with
      | zero => rfl
      | succ k =>
        obtain ⟨i, hi⟩ := Lib.index_of_count (s := l) (old := [c]) (by rw [Lib.count_one, hk]; omega)
        have hi' : Lib.index (b :: l) [c] = (i + 1 : Nat) := by
          rw [Lib.index_one] at hi ⊢
          unfold Lib.indexByte
          rw [if_neg (by simpa using hb), hi]
          simp
        rw [Lib.replaceK_hit _ _ _ _ _ hi, Lib.replaceK_hit _ _ _ _ _ hi']
        simp
theorem replaceAll_one {c d : UInt8} (h : c ≠ d) (l : List UInt8) : Lib.replaceAll l [c] [d] = l.map (one c d) := by
  unfold Lib.replaceAll Lib.replace
  rw [if_neg (by simpa using h)]
  unfold Lib.replaceNum
  rw [if_pos (by omega), Lib.count_one, replace_one]
/-- One byte in another's place. -/
def ones (c d : UInt8) (l : List UInt8) : List UInt8 := l.map (one c d)
theorem ones_len (c d : UInt8) (l : List UInt8) : (ones c d l).length = l.length := by simp [ones]
theorem replace_all {c d : UInt8} (h : c ≠ d) (l : List UInt8) (w : World) (hl : l.length ≤ 1048576) (hm : My w) :
    Calls Tryd.prog 37 #[.string (bs l), .string ⟨#[c]⟩, .string ⟨#[d]⟩] w fun e w' => e = .returned (sv (ones c d l)) ∧ Below w.heap.size w w' := by
  obtain ⟨m, hm⟩ := hm
  have hc : Lib.countB (bs l) ⟨#[c]⟩ ≤ l.length := by
    show Lib.count _ _ ≤ _
    show Lib.count l [c] ≤ _
    rw [Lib.count_one]; exact List.count_le_length
  refine (Any.strings_ReplaceAll Tryd.lays155 Tryd.extra155 (bs l) ⟨#[c]⟩ ⟨#[d]⟩ m w (by rw [bs_size]; omega) hm (Nat.le_refl 1) ?_).mono ?_
  · rw [bs_size]
    show _ + _ * 1 ≤ _
    omega
  · rintro e w' ⟨rfl, hw⟩
    refine ⟨?_, hw⟩
    show _ = Ending.returned (.string (bs _))
    have e : ones c d l = Lib.replaceAll l [c] [d] := (replaceAll_one h l).symm
    rw [e]
    rfl

/-- A text without ends of lines. -/
def cln (l : List UInt8) : List UInt8 := ones 10 32 (ones 13 32 l)
theorem cln_len (l : List UInt8) : (cln l).length = l.length := by simp [cln, ones_len]
set_option maxRecDepth 100000 in
theorem line_any (l : List UInt8) (w : World) (hl : l.length ≤ 1048576) (hm : My w) :
    Calls Tryd.prog 24 #[.string (bs l)] w fun e w' => e = .returned (sv (cln l)) ∧ Below w.heap.size w w' := by
  have HC1 := Lib.hid (replace_all (c := 13) (d := 32) (by decide) l w hl hm)
  have HC2 := Lib.hid (fun w' hb => replace_all (c := 10) (d := 32) (by decide) (ones 13 32 l) w' (by rw [ones_len]; exact hl) (hm.below_ hb))
  go_enter Tryd.func24, Tryd.ntmps24
  go_wp2_with fail
  refine HC1.out.mono ?_
  rintro e w1 ⟨rfl, hb1⟩
  go_wp2_with fail
  refine (HC2.out w1 hb1).mono ?_
  rintro e w2 ⟨rfl, hb2⟩
  go_wp2_with fail
  go_ret
  exact ⟨rfl, below_trans hb1 hb2⟩
end Go.Proofs.YtjdnpgdedbegfaaDoor
