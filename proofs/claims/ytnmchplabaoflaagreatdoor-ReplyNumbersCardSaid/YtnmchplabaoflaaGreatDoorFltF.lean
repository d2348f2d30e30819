/- The walks of fault.Text and of what it calls: a printable text, a code's words. -/
import Derived.Test.YtnmchplabaoflaaGreatDoorFltE
import Derived.Test.YtnmchplabaoflaaGreatDoorBase
import Derived.Ground.NamesProg
import Derived.Shelf.Lay
import Derived.Shelf.Strings.Replace
import Derived.Lib.SlBytesConst
namespace Go.Proofs
open Go.Shelf
shelf_lay Lays.n154 Nm 154 at Tryz as Tryz.lays154
shelf_lay Lays.n144 Nm 144 at Tryz as Tryz.lays144
theorem Tryz.extra154 : Builder.Extra Tryz.prog Tryz.lays154_ren where
  sizeBuilder := by kernel_rfl
  liesBuilder := by kernel_rfl
  t5 := Tryz.lays154.t5
  a5 := Tryz.lays154.a5
  z5 := Tryz.lays154.z5
  v5 := Tryz.lays154.v5
  infoByte := by kernel_rfl
  cellsByte := by kernel_rfl
  sizeByte := by kernel_rfl
  neB5 := by decide
end Go.Proofs
namespace Go.Proofs.YtnmchplabaoflaaGreatDoor
open Go.RowKit Go.Shelf
set_option linter.unusedVariables false

/-- The cell of the library's own variable holds some number. -/
def My (w : World) : Prop := ∃ m : Int, w.cell? ⟨Tryz.lays154_ren.g 1, 0, none⟩ = some (.int .i64 m)
theorem My.lt {w : World} (h : My w) : Tryz.lays154_ren.g 1 < w.heap.size := by
  obtain ⟨m, hm⟩ := h
  rcases Nat.lt_or_ge (Tryz.lays154_ren.g 1) w.heap.size with h' | h'
  · exact h'
  · simp [World.cell?, Array.getElem?_eq_none h'] at hm
theorem My.below {w w' : World} {B : Nat} (h : My w) (hb : Below B w w') (hB : Tryz.lays154_ren.g 1 < B) : My w' := by
  obtain ⟨m, hm⟩ := h
  exact ⟨m, (hb.cell (p := ⟨Tryz.lays154_ren.g 1, 0, none⟩) hB).trans hm⟩
theorem My.below_ {w w' : World} (h : My w) (hb : Below w.heap.size w w') : My w' := h.below hb h.lt

theorem contains_cmd (l : List UInt8) (w : World) (hl : l.length ≤ 1048576) (hm : My w) :
    Calls Tryz.prog 41 #[.string (bs l), .string ⟨#[67, 77, 68]⟩] w fun e w' => e = .returned (.bool (Lib.contains l cmd3)) ∧ w' = w := by
  obtain ⟨m, hm⟩ := hm
  exact Any.strings_Contains Tryz.lays144 (bs l) ⟨#[67, 77, 68]⟩ m w (by rw [bs_size]; omega) hm
theorem replace_cmd (l x : List UInt8) (w : World) (hl : l.length ≤ 1048576) (hx : x.length ≤ 1048576) (hm : My w) :
    Calls Tryz.prog 42 #[.string (bs l), .string ⟨#[67, 77, 68]⟩, .string (bs x), .int .i64 1] w fun e w' => e = .returned (sv (Lib.replace l cmd3 x 1)) ∧ Below w.heap.size w w' := by
  obtain ⟨m, hm⟩ := hm
  have hc : Lib.countB (bs l) ⟨#[67, 77, 68]⟩ ≤ l.length := by
    have h1 := Lib.countB_mul_le ⟨#[67, 77, 68]⟩ (by decide) (bs l).size (bs l) (Nat.le_refl _)
    rw [bs_size] at h1
    have h2 : (⟨#[67, 77, 68]⟩ : ByteArray).size = 3 := rfl
    rw [h2] at h1
    omega
  refine (Any.strings_Replace Tryz.lays154 Tryz.extra154 (bs l) ⟨#[67, 77, 68]⟩ (bs x) 1 m w (by rw [bs_size]; omega) hm (by decide) ?_).mono ?_
  · rw [bs_size, bs_size]
    have h3 : Lib.countB (bs l) ⟨#[67, 77, 68]⟩ * x.length ≤ 1048576 * 1048576 := Nat.mul_le_mul (Nat.le_trans hc hl) hx
    omega
  · rintro e w' ⟨rfl, hw⟩
    refine ⟨?_, hw⟩
    show _ = Ending.returned (.string (bs _))
    rfl

/-- The text half done. -/
def half (l : List UInt8) (k : Nat) : List UInt8 := (pln l).take k ++ l.drop k
theorem half_len (l : List UInt8) (k : Nat) : (half l k).length = l.length := by
  unfold half; rw [List.length_append, List.length_take, List.length_drop, pln_len]; omega
theorem half_zero (l : List UInt8) : half l 0 = l := by simp [half]
theorem half_all (l : List UInt8) (k : Nat) (h : l.length ≤ k) : half l k = pln l := by
  unfold half; rw [List.take_of_length_le (by rw [pln_len]; exact h), List.drop_eq_nil_of_le h, List.append_nil]
theorem half_get (l : List UInt8) (k : Nat) (h : k < l.length) : (half l k)[k]? = some l[k] := by
  unfold half
  rw [List.getElem?_append_right (by simp; omega)]
  have e : k - ((pln l).take k).length = 0 := by rw [List.length_take, pln_len]; omega
  rw [e, List.getElem?_drop, Nat.add_zero, List.getElem?_eq_getElem h]
theorem pln_get (l : List UInt8) (k : Nat) (h : k < l.length) : (pln l)[k]? = some (qm l[k]) := by
  unfold pln
  rw [List.getElem?_map, List.getElem?_eq_getElem h, Option.map_some]
theorem half_next (l : List UInt8) (k : Nat) (h : k < l.length) : half l (k + 1) = (pln l).take k ++ qm l[k] :: l.drop (k + 1) := by
  unfold half
  rw [List.take_add_one, pln_get l k h]; simp
theorem half_same (l : List UInt8) (k : Nat) (h : k < l.length) (h1 : qm l[k] = l[k]) : half l (k + 1) = half l k := by
  rw [half_next l k h, h1]; unfold half; rw [List.drop_eq_getElem_cons h]
theorem half_set (l : List UInt8) (k : Nat) (h : k < l.length) (h1 : qm l[k] = 63) : half l (k + 1) = (half l k).set k 63 := by
  rw [half_next l k h, h1]; unfold half
  have e : ((pln l).take k).length = k := by rw [List.length_take, pln_len]; omega
  rw [List.set_append_right _ _ (by omega), e, Nat.sub_self, List.drop_eq_getElem_cons h, List.set_cons_zero]
def intOf : Value → Int
  | .int _ n => n
  | _ => 0

set_option maxRecDepth 100000 in
set_option maxHeartbeats 4000000 in
theorem plain_any (l : List UInt8) (w : World) (hl : l.length ≤ 1048576) :
    Calls Tryz.prog 43 #[.string (bs l)] w fun e w' => e = .returned (sv (pln l)) ∧ Below w.heap.size w w' := by
  have hcv := run_bytes_of_string (P := Tryz.prog) w 9 77 5 (bs l) Tryz.underlying9 Tryz.underlying77 Tryz.underlying5
  have hob0 := OB.of_convert (w := w) (bs l) 5 w.heap.size (Nat.le_refl _) (by rw [bs_size]; unfold maxLen; omega)
  have hb0 : Below w.heap.size w (w.drew.alloc (.cells (bytesRow (bs l) (grownCap w (bs l).size 0 5)) 5 ((bytesRow (bs l) (grownCap w (bs l).size 0 5)).size, (bytesRow (bs l) (grownCap w (bs l).size 0 5)).size + 1))) := ((Below.refl _ _).drew).alloc (Nat.le_refl _) _
  generalize w.drew.alloc (.cells (bytesRow (bs l) (grownCap w (bs l).size 0 5)) 5 ((bytesRow (bs l) (grownCap w (bs l).size 0 5)).size, (bytesRow (bs l) (grownCap w (bs l).size 0 5)).size + 1)) = W0 at hcv hob0 hb0
  generalize grownCap w (bs l).size 0 5 = cap at hcv hob0
  rw [bs_size] at hcv hob0
  have hob1 : OB W0 w.heap.size 5 (.slice (some ⟨w.heap.size, 0, none⟩) l.length cap) (half l 0) := by rw [half_zero]; exact hob0
  obtain ⟨N, hN⟩ : ∃ N, l.length = N := ⟨_, rfl⟩
  have HN := Lib.hid hN
  have Hob := Lib.hid hob1
  have Hb0 := Lib.hid hb0
  rw [hN] at hcv Hob hl
  clear hob0 hob1 hb0 hN
  go_enter Tryz.func43, Tryz.ntmps43
  go_wp2_with fail
  go_loopw [10] (fun x wr => ∃ k, x = .int .i64 (k : Nat) ∧ k ≤ N ∧ OB wr w.heap.size 5 (.slice (some ⟨w.heap.size, 0, none⟩) N cap) (half l k) ∧ Below w.heap.size w wr) (fun x _ => N - (intOf x).toNat)
  case atStart => exact ⟨0, rfl, by omega, Hob.out, Hb0.out⟩
  case round =>
    clear hcv Hob Hb0
    obtain ⟨k, rfl, hk, hob, hbel⟩ := hrel
    have hob' := hob
    unfold OB at hob'
    rw [half_len, HN.out] at hob'
    rcases Nat.lt_or_ge k N with hlt | hge
    · have hkl : k < l.length := by rw [HN.out]; exact hlt
      have hc := hob'.cellAt k (by omega)
      have hf := hob'.frozenAt k (by omega)
      rw [show (bv (half l k))[k]? = some (Value.int .u8 (l[k].toNat : Nat)) by rw [bv, List.getElem?_map, half_get l k hkl]; rfl] at hc
      obtain ⟨u, hu⟩ : ∃ u, l[k].toNat = u := ⟨_, rfl⟩
      have HU := Lib.hid hu
      rw [hu] at hc
      have hlt' : (k : Int) < (N : Int) := by omega
      have hset := Lib.hid (Own.stored hob' k (.int .u8 63))
      have hob2 := Lib.hid (fun (h : qm l[k] = 63) => (show OB (wr.setCell ⟨w.heap.size, k, none⟩ (.int .u8 63)) w.heap.size 5 (.slice (some ⟨w.heap.size, 0, none⟩) N cap) (half l (k + 1)) from OB.mk hset.out (by rw [half_set l k hkl h, bv, bv, List.map_set]; rfl)))
      have Hob := Lib.hid hob
      have Hbel := Lib.hid (hbel.setCell (Nat.le_refl _) (p := ⟨w.heap.size, k, none⟩) (.int .u8 63))
      have Hbe := Lib.hid hbel
      clear hu hob hob' hbel hset
      by_cases h1 : (u : Int) < 32
      · have e1 : qm l[k] = 63 := by unfold qm; rw [HU.out, if_pos (by omega)]
        go_wp2_with fail
        go_roundw
        case rel => exact ⟨k + 1, by go_num, by omega, hob2.out e1, Hbel.out⟩
        case measure => simp [intOf]; omega
      · by_cases h2 : (126 : Int) < (u : Int)
        · have e1 : qm l[k] = 63 := by unfold qm; rw [HU.out, if_pos (by omega)]
          go_wp2_with fail
          go_roundw
          case rel => exact ⟨k + 1, by go_num, by omega, hob2.out e1, Hbel.out⟩
          case measure => simp [intOf]; omega
        · by_cases h3 : u = 39
          · have e1 : qm l[k] = 63 := by unfold qm; rw [HU.out, if_pos (by omega)]
            subst h3
            go_wp2_with fail
            go_roundw
            case rel => exact ⟨k + 1, by go_num, by omega, hob2.out e1, Hbel.out⟩
            case measure => simp [intOf]; omega
          · have h3' : ¬ (u : Int) = 39 := by omega
            have b3 : ((u : Int) == 39) = false := by simpa using h3'
            have e1 : qm l[k] = l[k] := by unfold qm; rw [HU.out, if_neg (by omega)]
            have hs := Lib.hid (half_same l k hkl e1)
            go_wp2_with fail
            go_roundw
            case rel => exact ⟨k + 1, by go_num, by omega, by rw [hs.out]; exact Hob.out, Hbe.out⟩
            case measure => simp [intOf]; omega
    · have hcs := hob.string (P := Tryz.prog) Tryz.underlying77 Tryz.underlying5 Tryz.underlying9
      rw [half_all l k (by rw [HN.out]; exact hge)] at hcs
      have Hbe := Lib.hid hbel
      have hge' : ¬ (k : Int) < (N : Int) := by omega
      clear hob hob' hbel
      go_wp2_with fail
      go_ret
      exact ⟨rfl, Hbe.out⟩
end Go.Proofs.YtnmchplabaoflaaGreatDoor
