/- The walk of NumAdds. -/
import Derived.Test.YtppfmgdooflllaaLaw2
import Derived.LoopN
namespace Go.Proofs.Ytppfmgdooflllaa
open Go.RowKit
set_option linter.unusedVariables false

theorem Num.add_comm (a b : Int) : Num.add a b = Num.add b a := by unfold Num.add; rw [Int.add_comm]
theorem add_cases (a b : Int) : (Num.add a b = some (a + b) ∧ -9223372036854775808 ≤ a + b ∧ a + b ≤ 9223372036854775807) ∨ Num.add a b = none := by
  unfold Num.add
  by_cases h : -9223372036854775808 ≤ a + b ∧ a + b ≤ 9223372036854775807
  · left; rw [if_pos h]; exact ⟨rfl, h⟩
  · right; rw [if_neg h]
def I64 (a : Int) : Prop := -9223372036854775808 ≤ a ∧ a ≤ 9223372036854775807
theorem add_some (w : World) (a b n : Int) (ha : -9223372036854775808 ≤ a ∧ a ≤ 9223372036854775807) (hb : -9223372036854775808 ≤ b ∧ b ≤ 9223372036854775807) (h : Num.add a b = some n) :
    Calls Try.prog 20 #[.int .i64 a, .int .i64 b] w fun e w' => e = .returned (.tuple #[.int .i64 n, .bool true]) ∧ w = w' :=
  (add_any a b w ha.1 ha.2 hb.1 hb.2).mono fun e w' ⟨he, hw⟩ => ⟨by rw [he, h]; rfl, hw⟩
theorem add_none (w : World) (a b : Int) (ha : -9223372036854775808 ≤ a ∧ a ≤ 9223372036854775807) (hb : -9223372036854775808 ≤ b ∧ b ≤ 9223372036854775807) (h : Num.add a b = none) :
    Calls Try.prog 20 #[.int .i64 a, .int .i64 b] w fun e w' => e = .returned (.tuple #[.int .i64 0, .bool false]) ∧ w = w' :=
  (add_any a b w ha.1 ha.2 hb.1 hb.2).mono fun e w' ⟨he, hw⟩ => ⟨by rw [he, h]; rfl, hw⟩

theorem adds_test (p q : Int) : (!decide (0 < q) == decide (p < p + q)) = false := by
  by_cases h : 0 < q
  · simp [h]; omega
  · simp [h]; omega

set_option maxHeartbeats 4000000 in
theorem numAdds_walk (a b near : Int) (w : World) (ha : -9223372036854775808 ≤ a ∧ a ≤ 9223372036854775807) (hb : -9223372036854775808 ≤ b ∧ b ≤ 9223372036854775807) (hn : -9223372036854775808 ≤ near ∧ near ≤ 9223372036854775807) :
    Calls Try.prog 4 #[.int .i64 a, .int .i64 b, .int .i64 near] w fun e w' => e = .returned (.bool true) ∧ Below w.heap.size w w' := by
  have hx := within_bd near 0 1000 (by omega)
  obtain ⟨x, hxx⟩ : ∃ x, within near 0 1000 = x := ⟨_, rfl⟩
  rw [hxx] at hx
  have Hx := Lib.hid hxx
  clear hxx
  go_enter Try.func4, Try.ntmps4
  go_wp2_with fail
  refine (within_any near 0 1000 _ hn.1 hn.2 (by omega) (by omega) (by omega)).mono ?_
  rintro e w1 ⟨rfl, rfl⟩
  rw [Hx.out]
  go_wp2_with fail
  obtain ⟨d, hd⟩ : ∃ d : Int, d = -(9223372036854775807 - x) := ⟨_, rfl⟩
  rw [← hd]
  obtain ⟨c, hc⟩ : ∃ c : Int, c = 9223372036854775807 - x := ⟨_, rfl⟩
  rw [← hc]
  have hcb : -9223372036854775808 ≤ c ∧ c ≤ 9223372036854775807 := by omega
  have hdb : -9223372036854775808 ≤ d ∧ d ≤ 9223372036854775807 := by omega
  clear hc hd Hx
  go_loopw [29] (fun i wr => ∃ k : Nat, k ≤ 3 ∧ i = .int .i64 k ∧ wr.cell? ⟨w.heap.size, 0, none⟩ = some (.int .i64 a) ∧ wr.cell? ⟨w.heap.size, 1, none⟩ = some (.int .i64 b) ∧ wr.cell? ⟨w.heap.size, 2, none⟩ = some (.int .i64 a) ∧ wr.cell? ⟨w.heap.size, 3, none⟩ = some (.int .i64 c) ∧ wr.cell? ⟨w.heap.size, 4, none⟩ = some (.int .i64 d) ∧ wr.cell? ⟨w.heap.size, 5, none⟩ = some (.int .i64 b) ∧ Below w.heap.size w wr ∧ w.heap.size < wr.heap.size)
    (fun i _ => 3 - (intOf i).toNat)
  case atStart => exact ⟨0, by omega, rfl, by simp [World.cell?_alloc_at], by simp [World.cell?_alloc_at], by simp [World.cell?_alloc_at], by simp [World.cell?_alloc_at], by simp [World.cell?_alloc_at], by simp [World.cell?_alloc_at], (Below.refl _ _).alloc (Nat.le_refl _) _, by simp⟩
  case round =>
    obtain ⟨k, hk, rfl, c0, c1, c2, c3, c4, c5, hbel, hlt⟩ := hrel
    rcases (show k = 0 ∨ k = 1 ∨ k = 2 ∨ k = 3 from by omega) with rfl | rfl | rfl | rfl
    · rcases add_cases a b with ⟨ho, hr1, hr2⟩ | ho
      · have Ho := Lib.hid ho
        have Ho2 := Lib.hid (by rw [← ho, Num.add_comm] : Num.add b a = some (a + b))
        have ht := adds_test a b
        have hs : a + b - a = b := by omega
        clear ho
        go_wp2_with fail
        refine (add_some _ a b (a + b) ha hb Ho.out).mono ?_
        rintro e w3 ⟨rfl, rfl⟩
        go_wp2_with fail
        refine (add_some _ b a (a + b) hb ha Ho2.out).mono ?_
        rintro e w3 ⟨rfl, rfl⟩
        go_wp2_with fail
        go_roundw
        case rel => exact ⟨1, by omega, by go_num, (World.cell?_alloc_lt wr _ _ hlt).trans c0, (World.cell?_alloc_lt wr _ _ hlt).trans c1, (World.cell?_alloc_lt wr _ _ hlt).trans c2, (World.cell?_alloc_lt wr _ _ hlt).trans c3, (World.cell?_alloc_lt wr _ _ hlt).trans c4, (World.cell?_alloc_lt wr _ _ hlt).trans c5, hbel.alloc hbel.size _, by simp; omega⟩
        case measure => simp [intOf]
      · have Ho := Lib.hid ho
        have Ho2 := Lib.hid (by rw [← ho, Num.add_comm] : Num.add b a = none)
        clear ho
        go_wp2_with fail
        refine (add_none _ a b ha hb Ho.out).mono ?_
        rintro e w3 ⟨rfl, rfl⟩
        go_wp2_with fail
        refine (add_none _ b a hb ha Ho2.out).mono ?_
        rintro e w3 ⟨rfl, rfl⟩
        go_wp2_with fail
        go_roundw
        case rel => exact ⟨1, by omega, by go_num, (World.cell?_alloc_lt wr _ _ hlt).trans c0, (World.cell?_alloc_lt wr _ _ hlt).trans c1, (World.cell?_alloc_lt wr _ _ hlt).trans c2, (World.cell?_alloc_lt wr _ _ hlt).trans c3, (World.cell?_alloc_lt wr _ _ hlt).trans c4, (World.cell?_alloc_lt wr _ _ hlt).trans c5, hbel.alloc hbel.size _, by simp; omega⟩
        case measure => simp [intOf]
    · rcases add_cases a c with ⟨ho, hr1, hr2⟩ | ho
      · have Ho := Lib.hid ho
        have Ho2 := Lib.hid (by rw [← ho, Num.add_comm] : Num.add c a = some (a + c))
        have ht := adds_test a c
        have hs : a + c - a = c := by omega
        clear ho
        go_wp2_with fail
        refine (add_some _ a c (a + c) ha hcb Ho.out).mono ?_
        rintro e w3 ⟨rfl, rfl⟩
        go_wp2_with fail
        refine (add_some _ c a (a + c) hcb ha Ho2.out).mono ?_
        rintro e w3 ⟨rfl, rfl⟩
        go_wp2_with fail
        go_roundw
        case rel => exact ⟨2, by omega, by go_num, (World.cell?_alloc_lt wr _ _ hlt).trans c0, (World.cell?_alloc_lt wr _ _ hlt).trans c1, (World.cell?_alloc_lt wr _ _ hlt).trans c2, (World.cell?_alloc_lt wr _ _ hlt).trans c3, (World.cell?_alloc_lt wr _ _ hlt).trans c4, (World.cell?_alloc_lt wr _ _ hlt).trans c5, hbel.alloc hbel.size _, by simp; omega⟩
        case measure => simp [intOf]
      · have Ho := Lib.hid ho
        have Ho2 := Lib.hid (by rw [← ho, Num.add_comm] : Num.add c a = none)
        clear ho
        go_wp2_with fail
        refine (add_none _ a c ha hcb Ho.out).mono ?_
        rintro e w3 ⟨rfl, rfl⟩
        go_wp2_with fail
        refine (add_none _ c a hcb ha Ho2.out).mono ?_
        rintro e w3 ⟨rfl, rfl⟩
        go_wp2_with fail
        go_roundw
        case rel => exact ⟨2, by omega, by go_num, (World.cell?_alloc_lt wr _ _ hlt).trans c0, (World.cell?_alloc_lt wr _ _ hlt).trans c1, (World.cell?_alloc_lt wr _ _ hlt).trans c2, (World.cell?_alloc_lt wr _ _ hlt).trans c3, (World.cell?_alloc_lt wr _ _ hlt).trans c4, (World.cell?_alloc_lt wr _ _ hlt).trans c5, hbel.alloc hbel.size _, by simp; omega⟩
        case measure => simp [intOf]
    · rcases add_cases d b with ⟨ho, hr1, hr2⟩ | ho
      · have Ho := Lib.hid ho
        have Ho2 := Lib.hid (by rw [← ho, Num.add_comm] : Num.add b d = some (d + b))
        have ht := adds_test d b
        have hs : d + b - d = b := by omega
        clear ho
        go_wp2_with fail
        refine (add_some _ d b (d + b) hdb hb Ho.out).mono ?_
        rintro e w3 ⟨rfl, rfl⟩
        go_wp2_with fail
        refine (add_some _ b d (d + b) hb hdb Ho2.out).mono ?_
        rintro e w3 ⟨rfl, rfl⟩
        go_wp2_with fail
        go_roundw
        case rel => exact ⟨3, by omega, by go_num, (World.cell?_alloc_lt wr _ _ hlt).trans c0, (World.cell?_alloc_lt wr _ _ hlt).trans c1, (World.cell?_alloc_lt wr _ _ hlt).trans c2, (World.cell?_alloc_lt wr _ _ hlt).trans c3, (World.cell?_alloc_lt wr _ _ hlt).trans c4, (World.cell?_alloc_lt wr _ _ hlt).trans c5, hbel.alloc hbel.size _, by simp; omega⟩
        case measure => simp [intOf]
      · have Ho := Lib.hid ho
        have Ho2 := Lib.hid (by rw [← ho, Num.add_comm] : Num.add b d = none)
        clear ho
        go_wp2_with fail
        refine (add_none _ d b hdb hb Ho.out).mono ?_
        rintro e w3 ⟨rfl, rfl⟩
        go_wp2_with fail
        refine (add_none _ b d hb hdb Ho2.out).mono ?_
        rintro e w3 ⟨rfl, rfl⟩
        go_wp2_with fail
        go_roundw
        case rel => exact ⟨3, by omega, by go_num, (World.cell?_alloc_lt wr _ _ hlt).trans c0, (World.cell?_alloc_lt wr _ _ hlt).trans c1, (World.cell?_alloc_lt wr _ _ hlt).trans c2, (World.cell?_alloc_lt wr _ _ hlt).trans c3, (World.cell?_alloc_lt wr _ _ hlt).trans c4, (World.cell?_alloc_lt wr _ _ hlt).trans c5, hbel.alloc hbel.size _, by simp; omega⟩
        case measure => simp [intOf]
    · go_wp2_with fail
      refine (known2_any _).mono ?_
      rintro e w7 ⟨rfl, hb7⟩
      go_wp2_with fail
      go_ret
      exact ⟨rfl, below_trans hbel hb7⟩
end Go.Proofs.Ytppfmgdooflllaa
