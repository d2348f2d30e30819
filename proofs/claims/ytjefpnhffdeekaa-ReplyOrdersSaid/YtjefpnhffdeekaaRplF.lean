/- The walk of the library's insertion sort over replies, by compare. -/
import Derived.Test.YtjefpnhffdeekaaRplE
import Derived.Deep.RegionHeld3
namespace Go.Proofs.Ytjefpnhffdeekaa
open Go.RowKit
set_option linter.unusedVariables false

theorem lto_neg (a b : Rep) : lto a b = decide (ord a b < 0) := rfl
theorem Own.eightAt {w : World} {B e n g cap : Nat} {P Q : List Value} {a0 a1 a2 a3 b0 b1 b2 b3 : Value} (h : Own w B e 4 (.slice (some ⟨g, 0, none⟩) n cap) n (P ++ a0 :: a1 :: a2 :: a3 :: b0 :: b1 :: b2 :: b3 :: Q)) {o : Nat} (ho : P.length = o * 4) :
    o + 2 ≤ n ∧ (w.cell? ⟨g, o * 4, none⟩ = some a0 ∧ w.cell? ⟨g, o * 4 + 1, none⟩ = some a1 ∧ w.cell? ⟨g, o * 4 + 2, none⟩ = some a2 ∧ w.cell? ⟨g, o * 4 + 3, none⟩ = some a3) ∧
      (w.cell? ⟨g, o * 4 + 4, none⟩ = some b0 ∧ w.cell? ⟨g, o * 4 + 5, none⟩ = some b1 ∧ w.cell? ⟨g, o * 4 + 6, none⟩ = some b2 ∧ w.cell? ⟨g, o * 4 + 7, none⟩ = some b3) ∧ (∀ r, r < 8 → w.frozen? ⟨g, o * 4 + r, none⟩ = false) := by
  have hl := h.1
  simp only [List.length_append, List.length_cons] at hl
  have hx : ∀ r, r < 8 → (P ++ a0 :: a1 :: a2 :: a3 :: b0 :: b1 :: b2 :: b3 :: Q)[o * 4 + r]? = [a0, a1, a2, a3, b0, b1, b2, b3][r]? := by
    intro r hr
    rw [List.getElem?_append_right (by omega), show o * 4 + r - P.length = r by omega]
    rcases (show r = 0 ∨ r = 1 ∨ r = 2 ∨ r = 3 ∨ r = 4 ∨ r = 5 ∨ r = 6 ∨ r = 7 by omega) with rfl | rfl | rfl | rfl | rfl | rfl | rfl | rfl <;> rfl
  have hc : ∀ r, r < 8 → w.cell? ⟨g, o * 4 + r, none⟩ = [a0, a1, a2, a3, b0, b1, b2, b3][r]? := fun r hr => (h.cellAt (o * 4 + r) (by omega)).trans (hx r hr)
  exact ⟨by omega, ⟨hc 0 (by omega), hc 1 (by omega), hc 2 (by omega), hc 3 (by omega)⟩, ⟨hc 4 (by omega), hc 5 (by omega), hc 6 (by omega), hc 7 (by omega)⟩, fun r hr => h.frozenAt _ (by omega)⟩

theorem grown_drew {w w' : World} {row : Option Nat} (h : w.grownBy w' row) : w.grownBy w'.drew row := ⟨h.os, h.tape, h.output, h.size, h.block⟩
set_option maxRecDepth 100000 in
set_option maxHeartbeats 8000000 in
theorem inssort_any {B g n cap : Nat} (acc : List Rep) (w : World) (hor : OR w B (.slice (some ⟨g, 0, none⟩) n cap) acc) (hn : acc.length = n) (hn1 : n ≤ 1000) :
    Calls Try.prog 36 #[.slice (some ⟨g, 0, none⟩) n cap, .int .i64 0, .int .i64 n, .func (.func 14) #[] #[]] w fun e w' => e = .returned (.tuple #[]) ∧ OR w' B (.slice (some ⟨g, 0, none⟩) n cap) (isort lto acc) ∧ w.grownBy w' (some g) := by
  have HN := Lib.hid hn
  have HO := Lib.hid hor
  obtain ⟨a0, ha0⟩ : ∃ a : Addr, (⟨g, 0, none⟩ : Addr) = a := ⟨_, rfl⟩
  have HA := Lib.hid ha0
  have HA4 := Lib.hid (fun k : Nat => (show a0.add k = ⟨g, k, none⟩ by rw [← ha0, spot_add rfl]; simp))
  rw [show (Value.slice (some ⟨g, 0, none⟩) n cap) = Value.slice (some a0) n cap by rw [ha0]]
  clear hn hor ha0
  go_enter Try.func36, Try.ntmps36
  go_wp2_with fail
  go_loopw [8] (fun x wr => ∃ (i : Nat) (X : List Rep), x = .int .i64 (i : Nat) ∧ 1 ≤ i ∧ Hid (Ins lto acc X i) ∧ OR wr B (.slice (some ⟨g, 0, none⟩) n cap) X ∧ w.grownBy wr (some g)) (fun x _ => n - (nOf x).toNat)
  case atStart => exact ⟨1, acc, rfl, Nat.le_refl _, Lib.hid Ins.start, HO.out, World.grownBy.refl _ _⟩
  case round =>
    obtain ⟨i, X, rfl, hi1, HI, hor, hgr⟩ := hrel
    have HR := Lib.hid hor
    have HG := Lib.hid hgr
    clear hor hgr
    by_cases hin : i < n
    · have i1 : (i : Int) < (n : Int) := by omega
      have HS := Lib.hid (HI.out.sink (by rw [HN.out]; exact hin))
      go_wp2_with fail
      go_loopw [9] (fun x wr => ∃ (j : Nat) (X : List Rep), x = .int .i64 (j : Nat) ∧ Hid (Sink lto acc X i j) ∧ OR wr B (.slice (some ⟨g, 0, none⟩) n cap) X ∧ w.grownBy wr (some g)) (fun x _ => (nOf x).toNat)
      case atStart => exact ⟨i, X, rfl, HS, HR.out, HG.out⟩
      case round =>
        obtain ⟨j, X2, rfl, HS2, hor2, hgr2⟩ := hrel
        have HR2 := Lib.hid hor2
        have HG2 := Lib.hid hgr2
        clear hor2 hgr2
        cases j with
        | zero =>
          have HI2 := Lib.hid HS2.out.zero
          go_wp2_with fail
          go_region
          go_wp2_with fail
          go_roundw
          case rel => exact ⟨i + 1, X2, by go_num, by omega, HI2, by first | exact HR2.out | exact HR2.out.drew, by first | exact HG2.out | exact grown_drew HG2.out⟩
          case measure => simp [nOf]; omega
        | succ j =>
          obtain ⟨P, y, x, Q, rfl, hP, hs1, hs2⟩ := HS2.out.step
          have hXn := HS2.out.len
          rw [HN.out] at hXn
          obtain ⟨E1, f1, E2, f2, xp, xq, hown, hxp, hrP, hry, hrx, hrQ⟩ := HR2.out.split hXn
          obtain ⟨hjn, ⟨a0', a1, a2, a3⟩, ⟨b0, b1, b2, b3⟩, hfz⟩ := hown.eightAt (hxp.trans (by rw [hP]))
          have i2 : (0 : Int) < (j : Int) + 1 := by omega
          have HH1 := Lib.hid hs1
          have HH2 := Lib.hid hs2
          have HOWN := Lib.hid hown
          have HFZ := Lib.hid hfz
          have HxP := Lib.hid hxp
          have HrP := Lib.hid hrP
          have Hry := Lib.hid hry
          have Hrx := Lib.hid hrx
          have HrQ := Lib.hid hrQ
          have HpP := Lib.hid hP
          clear hs1 hs2 hown hfz hxp hrP hry hrx hrQ hP
          have hg := (HOWN.out.lt g rfl).2
          have HK := Lib.hid (fun w' (hb : Below wr.heap.size wr w') => (show Below wr.heap.size wr w' ∧ w'.cell? (a0.add (j * 4)) = some (.int .i64 y.k) ∧ w'.cell? ⟨(a0.add (j * 4)).block, (a0.add (j * 4)).off + 1, none⟩ = some (sv y.s) ∧ w'.cell? ⟨(a0.add (j * 4)).block, (a0.add (j * 4)).off + 2, none⟩ = some (.int .i64 y.n) ∧ w'.cell? ⟨(a0.add (j * 4)).block, (a0.add (j * 4)).off + 3, none⟩ = some (.slice E1 y.l.length f1) ∧ w'.cell? (a0.add ((j + 1) * 4)) = some (.int .i64 x.k) ∧ w'.cell? ⟨(a0.add ((j + 1) * 4)).block, (a0.add ((j + 1) * 4)).off + 1, none⟩ = some (sv x.s) ∧ w'.cell? ⟨(a0.add ((j + 1) * 4)).block, (a0.add ((j + 1) * 4)).off + 2, none⟩ = some (.int .i64 x.n) ∧ w'.cell? ⟨(a0.add ((j + 1) * 4)).block, (a0.add ((j + 1) * 4)).off + 3, none⟩ = some (.slice E2 x.l.length f2) from by
            simp only [HA4.out]
            have e : (j + 1) * 4 = j * 4 + 4 := by omega
            rw [e]
            exact ⟨hb, (hb.cell (p := ⟨g, j * 4, none⟩) hg).trans a0', (hb.cell (p := ⟨g, j * 4 + 1, none⟩) hg).trans a1, (hb.cell (p := ⟨g, j * 4 + 2, none⟩) hg).trans a2, (hb.cell (p := ⟨g, j * 4 + 3, none⟩) hg).trans a3, (hb.cell (p := ⟨g, j * 4 + 4, none⟩) hg).trans b0, (hb.cell (p := ⟨g, j * 4 + 5, none⟩) hg).trans b1, (hb.cell (p := ⟨g, j * 4 + 6, none⟩) hg).trans b2, (hb.cell (p := ⟨g, j * 4 + 7, none⟩) hg).trans b3⟩))
          have HC := Lib.hid (fun w' (hb : Below wr.heap.size wr w') => compare_any (a := x) (b := y) (Liv.below (Hrx.out.mono (fun b hb => hb.2.1)) hb) (Liv.below (Hry.out.mono (fun b hb => hb.2.1)) hb))
          have hS0 : Below wr.heap.size wr wr := Below.refl _ _
          obtain ⟨o, ho⟩ : ∃ o, ord x y = o := ⟨_, rfl⟩
          rw [ho] at HC
          have HLT := Lib.hid (show lto x y = decide (o < 0) by rw [lto_neg, ho])
          have j1 : (j : Int) + 1 < (n : Int) := by omega
          have j2 : (j : Int) < (n : Int) := by omega
          have j3 : (0 : Int) ≤ (j : Int) := by omega
          have j4 : j < n := by omega
          have j5 : j + 1 < n := by omega
          have j6 : (0 : Int) ≤ (j : Int) + 1 := by omega
          have j7 : IntKind.i64.wrap (j : Int) = (j : Int) := wrap_small _ (by omega) (by omega)
          clear a0' a1 a2 a3 b0 b1 b2 b3 ho
          by_cases hneg : o < 0
          · have HS3 := Lib.hid (HH1.out (by rw [HLT.out]; exact decide_eq_true hneg))
            go_wp2_with fail
            go_region_held (fun w' => Below wr.heap.size wr w' ∧ w'.cell? (a0.add (j * 4)) = some (.int .i64 y.k) ∧ w'.cell? ⟨(a0.add (j * 4)).block, (a0.add (j * 4)).off + 1, none⟩ = some (sv y.s) ∧ w'.cell? ⟨(a0.add (j * 4)).block, (a0.add (j * 4)).off + 2, none⟩ = some (.int .i64 y.n) ∧ w'.cell? ⟨(a0.add (j * 4)).block, (a0.add (j * 4)).off + 3, none⟩ = some (.slice E1 y.l.length f1) ∧ w'.cell? (a0.add ((j + 1) * 4)) = some (.int .i64 x.k) ∧ w'.cell? ⟨(a0.add ((j + 1) * 4)).block, (a0.add ((j + 1) * 4)).off + 1, none⟩ = some (sv x.s) ∧ w'.cell? ⟨(a0.add ((j + 1) * 4)).block, (a0.add ((j + 1) * 4)).off + 2, none⟩ = some (.int .i64 x.n) ∧ w'.cell? ⟨(a0.add ((j + 1) * 4)).block, (a0.add ((j + 1) * 4)).off + 3, none⟩ = some (.slice E2 x.l.length f2))
              (first | exact HK.out _ hS0 | exact HK.out _ hS0.drew)
              (first
                | (go_at_call 14; refine (HC.out _ (by first | exact hS0 | exact hS0.drew)).mono ?_; rintro e w3 ⟨rfl, hb3⟩; have hS0 := below_trans (by first | exact hS0 | exact hS0.drew) hb3))
            have hown3 := HOWN.out.below_ hS0
            obtain ⟨_, _, _, hfz3⟩ := hown3.eightAt (HxP.out.trans (by rw [HpP.out]))
            obtain ⟨c0, c1, c2, c3, c4, c5, c6, c7⟩ := (HK.out w3 hS0).2
            obtain ⟨z0, z1, z2, z3, z4, z5, z6, z7⟩ : w3.frozen? (a0.add (j * 4)) = false ∧ w3.frozen? ⟨(a0.add (j * 4)).block, (a0.add (j * 4)).off + 1, none⟩ = false ∧ w3.frozen? ⟨(a0.add (j * 4)).block, (a0.add (j * 4)).off + 2, none⟩ = false ∧ w3.frozen? ⟨(a0.add (j * 4)).block, (a0.add (j * 4)).off + 3, none⟩ = false ∧ w3.frozen? (a0.add ((j + 1) * 4)) = false ∧ w3.frozen? ⟨(a0.add ((j + 1) * 4)).block, (a0.add ((j + 1) * 4)).off + 1, none⟩ = false ∧ w3.frozen? ⟨(a0.add ((j + 1) * 4)).block, (a0.add ((j + 1) * 4)).off + 2, none⟩ = false ∧ w3.frozen? ⟨(a0.add ((j + 1) * 4)).block, (a0.add ((j + 1) * 4)).off + 3, none⟩ = false := by
              simp only [HA4.out]
              have e : (j + 1) * 4 = j * 4 + 4 := by omega
              rw [e]
              exact ⟨hfz3 0 (by omega), hfz3 1 (by omega), hfz3 2 (by omega), hfz3 3 (by omega), hfz3 4 (by omega), hfz3 5 (by omega), hfz3 6 (by omega), hfz3 7 (by omega)⟩
            have HOWN3 := Lib.hid hown3
            have s1 : ((w3.setCell (a0.add ((j + 1) * 4)) (.int .i64 y.k))).cell? (⟨(a0.add ((j + 1) * 4)).block, (a0.add ((j + 1) * 4)).off + 1, none⟩) = some (sv x.s) := (show (puts w3 [(a0.add ((j + 1) * 4), .int .i64 y.k)]).cell? (⟨(a0.add ((j + 1) * 4)).block, (a0.add ((j + 1) * 4)).off + 1, none⟩) = some (sv x.s) from (puts_cell _ _ _ (by intro q hq; simp only [HA4.out, List.mem_cons, List.mem_nil_iff, or_false] at hq ⊢; rcases hq with rfl <;> simp <;> omega)).trans c5)
            have s2 : (((w3.setCell (a0.add ((j + 1) * 4)) (.int .i64 y.k)).setCell (⟨(a0.add ((j + 1) * 4)).block, (a0.add ((j + 1) * 4)).off + 1, none⟩) (.string (bs y.s)))).cell? (⟨(a0.add ((j + 1) * 4)).block, (a0.add ((j + 1) * 4)).off + 2, none⟩) = some (.int .i64 x.n) := (show (puts w3 [(a0.add ((j + 1) * 4), .int .i64 y.k), (⟨(a0.add ((j + 1) * 4)).block, (a0.add ((j + 1) * 4)).off + 1, none⟩, .string (bs y.s))]).cell? (⟨(a0.add ((j + 1) * 4)).block, (a0.add ((j + 1) * 4)).off + 2, none⟩) = some (.int .i64 x.n) from (puts_cell _ _ _ (by intro q hq; simp only [HA4.out, List.mem_cons, List.mem_nil_iff, or_false] at hq ⊢; rcases hq with rfl | rfl <;> simp <;> omega)).trans c6)
            have s3 : ((((w3.setCell (a0.add ((j + 1) * 4)) (.int .i64 y.k)).setCell (⟨(a0.add ((j + 1) * 4)).block, (a0.add ((j + 1) * 4)).off + 1, none⟩) (.string (bs y.s))).setCell (⟨(a0.add ((j + 1) * 4)).block, (a0.add ((j + 1) * 4)).off + 2, none⟩) (.int .i64 y.n))).cell? (⟨(a0.add ((j + 1) * 4)).block, (a0.add ((j + 1) * 4)).off + 3, none⟩) = some (.slice E2 x.l.length f2) := (show (puts w3 [(a0.add ((j + 1) * 4), .int .i64 y.k), (⟨(a0.add ((j + 1) * 4)).block, (a0.add ((j + 1) * 4)).off + 1, none⟩, .string (bs y.s)), (⟨(a0.add ((j + 1) * 4)).block, (a0.add ((j + 1) * 4)).off + 2, none⟩, .int .i64 y.n)]).cell? (⟨(a0.add ((j + 1) * 4)).block, (a0.add ((j + 1) * 4)).off + 3, none⟩) = some (.slice E2 x.l.length f2) from (puts_cell _ _ _ (by intro q hq; simp only [HA4.out, List.mem_cons, List.mem_nil_iff, or_false] at hq ⊢; rcases hq with rfl | rfl | rfl <;> simp <;> omega)).trans c7)
            have s4 : (((((w3.setCell (a0.add ((j + 1) * 4)) (.int .i64 y.k)).setCell (⟨(a0.add ((j + 1) * 4)).block, (a0.add ((j + 1) * 4)).off + 1, none⟩) (.string (bs y.s))).setCell (⟨(a0.add ((j + 1) * 4)).block, (a0.add ((j + 1) * 4)).off + 2, none⟩) (.int .i64 y.n)).setCell (⟨(a0.add ((j + 1) * 4)).block, (a0.add ((j + 1) * 4)).off + 3, none⟩) (.slice E1 y.l.length f1))).cell? (a0.add (j * 4)) = some (.int .i64 y.k) := (show (puts w3 [(a0.add ((j + 1) * 4), .int .i64 y.k), (⟨(a0.add ((j + 1) * 4)).block, (a0.add ((j + 1) * 4)).off + 1, none⟩, .string (bs y.s)), (⟨(a0.add ((j + 1) * 4)).block, (a0.add ((j + 1) * 4)).off + 2, none⟩, .int .i64 y.n), (⟨(a0.add ((j + 1) * 4)).block, (a0.add ((j + 1) * 4)).off + 3, none⟩, .slice E1 y.l.length f1)]).cell? (a0.add (j * 4)) = some (.int .i64 y.k) from (puts_cell _ _ _ (by intro q hq; simp only [HA4.out, List.mem_cons, List.mem_nil_iff, or_false] at hq ⊢; rcases hq with rfl | rfl | rfl | rfl <;> simp <;> omega)).trans c0)
            have s5 : ((((((w3.setCell (a0.add ((j + 1) * 4)) (.int .i64 y.k)).setCell (⟨(a0.add ((j + 1) * 4)).block, (a0.add ((j + 1) * 4)).off + 1, none⟩) (.string (bs y.s))).setCell (⟨(a0.add ((j + 1) * 4)).block, (a0.add ((j + 1) * 4)).off + 2, none⟩) (.int .i64 y.n)).setCell (⟨(a0.add ((j + 1) * 4)).block, (a0.add ((j + 1) * 4)).off + 3, none⟩) (.slice E1 y.l.length f1)).setCell (a0.add (j * 4)) (.int .i64 x.k))).cell? (⟨(a0.add (j * 4)).block, (a0.add (j * 4)).off + 1, none⟩) = some (sv y.s) := (show (puts w3 [(a0.add ((j + 1) * 4), .int .i64 y.k), (⟨(a0.add ((j + 1) * 4)).block, (a0.add ((j + 1) * 4)).off + 1, none⟩, .string (bs y.s)), (⟨(a0.add ((j + 1) * 4)).block, (a0.add ((j + 1) * 4)).off + 2, none⟩, .int .i64 y.n), (⟨(a0.add ((j + 1) * 4)).block, (a0.add ((j + 1) * 4)).off + 3, none⟩, .slice E1 y.l.length f1), (a0.add (j * 4), .int .i64 x.k)]).cell? (⟨(a0.add (j * 4)).block, (a0.add (j * 4)).off + 1, none⟩) = some (sv y.s) from (puts_cell _ _ _ (by intro q hq; simp only [HA4.out, List.mem_cons, List.mem_nil_iff, or_false] at hq ⊢; rcases hq with rfl | rfl | rfl | rfl | rfl <;> simp <;> omega)).trans c1)
            have s6 : (((((((w3.setCell (a0.add ((j + 1) * 4)) (.int .i64 y.k)).setCell (⟨(a0.add ((j + 1) * 4)).block, (a0.add ((j + 1) * 4)).off + 1, none⟩) (.string (bs y.s))).setCell (⟨(a0.add ((j + 1) * 4)).block, (a0.add ((j + 1) * 4)).off + 2, none⟩) (.int .i64 y.n)).setCell (⟨(a0.add ((j + 1) * 4)).block, (a0.add ((j + 1) * 4)).off + 3, none⟩) (.slice E1 y.l.length f1)).setCell (a0.add (j * 4)) (.int .i64 x.k)).setCell (⟨(a0.add (j * 4)).block, (a0.add (j * 4)).off + 1, none⟩) (.string (bs x.s)))).cell? (⟨(a0.add (j * 4)).block, (a0.add (j * 4)).off + 2, none⟩) = some (.int .i64 y.n) := (show (puts w3 [(a0.add ((j + 1) * 4), .int .i64 y.k), (⟨(a0.add ((j + 1) * 4)).block, (a0.add ((j + 1) * 4)).off + 1, none⟩, .string (bs y.s)), (⟨(a0.add ((j + 1) * 4)).block, (a0.add ((j + 1) * 4)).off + 2, none⟩, .int .i64 y.n), (⟨(a0.add ((j + 1) * 4)).block, (a0.add ((j + 1) * 4)).off + 3, none⟩, .slice E1 y.l.length f1), (a0.add (j * 4), .int .i64 x.k), (⟨(a0.add (j * 4)).block, (a0.add (j * 4)).off + 1, none⟩, .string (bs x.s))]).cell? (⟨(a0.add (j * 4)).block, (a0.add (j * 4)).off + 2, none⟩) = some (.int .i64 y.n) from (puts_cell _ _ _ (by intro q hq; simp only [HA4.out, List.mem_cons, List.mem_nil_iff, or_false] at hq ⊢; rcases hq with rfl | rfl | rfl | rfl | rfl | rfl <;> simp <;> omega)).trans c2)
            have s7 : ((((((((w3.setCell (a0.add ((j + 1) * 4)) (.int .i64 y.k)).setCell (⟨(a0.add ((j + 1) * 4)).block, (a0.add ((j + 1) * 4)).off + 1, none⟩) (.string (bs y.s))).setCell (⟨(a0.add ((j + 1) * 4)).block, (a0.add ((j + 1) * 4)).off + 2, none⟩) (.int .i64 y.n)).setCell (⟨(a0.add ((j + 1) * 4)).block, (a0.add ((j + 1) * 4)).off + 3, none⟩) (.slice E1 y.l.length f1)).setCell (a0.add (j * 4)) (.int .i64 x.k)).setCell (⟨(a0.add (j * 4)).block, (a0.add (j * 4)).off + 1, none⟩) (.string (bs x.s))).setCell (⟨(a0.add (j * 4)).block, (a0.add (j * 4)).off + 2, none⟩) (.int .i64 x.n))).cell? (⟨(a0.add (j * 4)).block, (a0.add (j * 4)).off + 3, none⟩) = some (.slice E1 y.l.length f1) := (show (puts w3 [(a0.add ((j + 1) * 4), .int .i64 y.k), (⟨(a0.add ((j + 1) * 4)).block, (a0.add ((j + 1) * 4)).off + 1, none⟩, .string (bs y.s)), (⟨(a0.add ((j + 1) * 4)).block, (a0.add ((j + 1) * 4)).off + 2, none⟩, .int .i64 y.n), (⟨(a0.add ((j + 1) * 4)).block, (a0.add ((j + 1) * 4)).off + 3, none⟩, .slice E1 y.l.length f1), (a0.add (j * 4), .int .i64 x.k), (⟨(a0.add (j * 4)).block, (a0.add (j * 4)).off + 1, none⟩, .string (bs x.s)), (⟨(a0.add (j * 4)).block, (a0.add (j * 4)).off + 2, none⟩, .int .i64 x.n)]).cell? (⟨(a0.add (j * 4)).block, (a0.add (j * 4)).off + 3, none⟩) = some (.slice E1 y.l.length f1) from (puts_cell _ _ _ (by intro q hq; simp only [HA4.out, List.mem_cons, List.mem_nil_iff, or_false] at hq ⊢; rcases hq with rfl | rfl | rfl | rfl | rfl | rfl | rfl <;> simp <;> omega)).trans c3)
            have HS0 := Lib.hid hS0
            clear hown3 hfz3 hS0
            go_wp2_with fail
            go_region
            have hW4 : ((((((((w3.setCell (a0.add ((j + 1) * 4)) (.int .i64 y.k)).setCell (⟨(a0.add ((j + 1) * 4)).block, (a0.add ((j + 1) * 4)).off + 1, none⟩) (.string (bs y.s))).setCell (⟨(a0.add ((j + 1) * 4)).block, (a0.add ((j + 1) * 4)).off + 2, none⟩) (.int .i64 y.n)).setCell (⟨(a0.add ((j + 1) * 4)).block, (a0.add ((j + 1) * 4)).off + 3, none⟩) (.slice E1 y.l.length f1)).setCell (a0.add (j * 4)) (.int .i64 x.k)).setCell (⟨(a0.add (j * 4)).block, (a0.add (j * 4)).off + 1, none⟩) (.string (bs x.s))).setCell (⟨(a0.add (j * 4)).block, (a0.add (j * 4)).off + 2, none⟩) (.int .i64 x.n)).setCell (⟨(a0.add (j * 4)).block, (a0.add (j * 4)).off + 3, none⟩) (.slice E2 x.l.length f2)) = putAt (putAt w3 g (j * 4 + 4) (.int .i64 y.k) (sv y.s) (.int .i64 y.n) (.slice E1 y.l.length f1)) g (j * 4) (.int .i64 x.k) (sv x.s) (.int .i64 x.n) (.slice E2 x.l.length f2) := by
              have e : (j + 1) * 4 = j * 4 + 4 := by omega
              simp only [HA4.out, e]
              rfl
            rw [hW4]
            have HOR4 := Lib.hid (OR.swapped hXn HS0.out HOWN.out (HxP.out.trans (by rw [HpP.out])) HrP.out Hry.out Hrx.out HrQ.out)
            have HGR4 := Lib.hid (putAt_grown (putAt_grown (grown_below HG2.out HS0.out) (j * 4 + 4) (.int .i64 y.k) (sv y.s) (.int .i64 y.n) (.slice E1 y.l.length f1)) (j * 4) (.int .i64 x.k) (sv x.s) (.int .i64 x.n) (.slice E2 x.l.length f2))
            clear hW4 s1 s2 s3 s4 s5 s6 s7 c0 c1 c2 c3 c4 c5 c6 c7 z0 z1 z2 z3 z4 z5 z6 z7
            generalize putAt (putAt w3 g (j * 4 + 4) (.int .i64 y.k) (sv y.s) (.int .i64 y.n) (.slice E1 y.l.length f1)) g (j * 4) (.int .i64 x.k) (sv x.s) (.int .i64 x.n) (.slice E2 x.l.length f2) = W4 at HOR4 HGR4 ⊢
            go_wp2_with fail
            go_roundw
            case rel => exact ⟨j, _, by first | rfl | go_num, HS3, by first | exact HOR4.out.drew | exact HOR4.out, by first | exact grown_drew HGR4.out | exact HGR4.out⟩
            case measure => simp [nOf]
          · have HS3 := Lib.hid (HH2.out (by rw [HLT.out]; exact decide_eq_false hneg))
            go_wp2_with fail
            go_region_held (fun w' => Below wr.heap.size wr w' ∧ w'.cell? (a0.add (j * 4)) = some (.int .i64 y.k) ∧ w'.cell? ⟨(a0.add (j * 4)).block, (a0.add (j * 4)).off + 1, none⟩ = some (sv y.s) ∧ w'.cell? ⟨(a0.add (j * 4)).block, (a0.add (j * 4)).off + 2, none⟩ = some (.int .i64 y.n) ∧ w'.cell? ⟨(a0.add (j * 4)).block, (a0.add (j * 4)).off + 3, none⟩ = some (.slice E1 y.l.length f1) ∧ w'.cell? (a0.add ((j + 1) * 4)) = some (.int .i64 x.k) ∧ w'.cell? ⟨(a0.add ((j + 1) * 4)).block, (a0.add ((j + 1) * 4)).off + 1, none⟩ = some (sv x.s) ∧ w'.cell? ⟨(a0.add ((j + 1) * 4)).block, (a0.add ((j + 1) * 4)).off + 2, none⟩ = some (.int .i64 x.n) ∧ w'.cell? ⟨(a0.add ((j + 1) * 4)).block, (a0.add ((j + 1) * 4)).off + 3, none⟩ = some (.slice E2 x.l.length f2))
              (first | exact HK.out _ hS0 | exact HK.out _ hS0.drew)
              (first
                | (go_at_call 14; refine (HC.out _ (by first | exact hS0 | exact hS0.drew)).mono ?_; rintro e w3 ⟨rfl, hb3⟩; have hS0 := below_trans (by first | exact hS0 | exact hS0.drew) hb3))
            go_wp2_with fail
            go_roundw
            case rel => exact ⟨i + 1, _, by go_num, by omega, HS3, HR2.out.below hS0, grown_below HG2.out hS0⟩
            case measure => simp [nOf]; omega
    · have i1 : ¬ (i : Int) < (n : Int) := by omega
      have HE := Lib.hid (HI.out.end_ (by rw [HN.out]; omega))
      go_wp2_with fail
      refine bodyPost_end (results_none rfl _ _ _) rfl ?_
      exact ⟨rfl, by rw [← HA.out, ← HE.out]; exact HR.out, HG.out⟩
end Go.Proofs.Ytjefpnhffdeekaa
