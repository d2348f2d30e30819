/- The walk of the document's answer's rise (tallboyref17): insertion over a row of its own. -/
import Derived.Test.YtnmchplabaoflaaGreatDoorRplG
import Derived.Test.YtnmchplabaoflaaGreatDoorRplD
namespace Go.Proofs.YtnmchplabaoflaaGreatDoor
open Go.RowKit
set_option linter.unusedVariables false

/-- A new row alone has turned. -/
theorem below_of_grown {w w1 w2 : World} {g : Nat} (h : Below w.heap.size w w1 ∧ w.heap.size ≤ g) (hg : w1.grownBy w2 (some g)) : Below w.heap.size w w2 :=
  ⟨hg.os.trans h.1.os, hg.tape.trans h.1.tape, hg.output.trans h.1.output, Nat.le_trans h.1.size hg.size, fun k hk => (hg.block k (Nat.lt_of_lt_of_le hk h.1.size) (fun e => by injection e with e; have := h.2; omega)).trans (h.1.block k hk)⟩

set_option maxRecDepth 100000 in
set_option maxHeartbeats 8000000 in
theorem rise_any {B n : Nat} {v : Value} (acc : List Rep) (w : World) (hor0 : OR w B v acc) (hn : acc.length = n) (hn1 : n ≤ 1000) (hB : B ≤ w.heap.size) :
    Calls Tryz.prog 38 #[v] w fun e w' => ∃ v', e = .returned v' ∧ OR w' B v' (isort lto acc) ∧ Below w.heap.size w w' := by
  obtain ⟨it, hi', hy0, hy1, hy2⟩ := info_parts repinfo
  have HN := Lib.hid hn
  obtain ⟨A, c, rfl⟩ := hor0.form
  obtain ⟨xs, ho, hr⟩ := id hor0
  have hown0 : Own (w.alloc (.cells #[] 24)) w.heap.size 24 4 (.slice (some ⟨w.heap.size, 0, none⟩) 0 0) 0 [] := Own.lit w #[] 0 (Nat.le_refl _) (Nat.zero_le _) rfl
  have hsrc := Src.own (P := Tryz.prog) (u := 22) (e' := 24) (ho.alloc (.cells #[] 24)) Tryz.underlying22 hr.one1 (by decide)
  rw [hn] at hsrc ho ⊢
  have HSRC := Lib.hid hsrc
  have HO0 := Lib.hid hown0
  have HR0 := Lib.hid hr
  have HOR0 := Lib.hid hor0
  clear hn hsrc hown0 ho hr hor0
  go_enter Tryz.func38, Tryz.ntmps38
  go_wp2_with (at_builtin
               refine wpList_append_Own _ rfl (.tmp 6) (.tmp 7) _ _ rfl w.heap.size 24 it _ 4 56 Tryz.underlying22 hi' hy0 hy1 hy2 rfl (.slice (some ⟨w.heap.size, 0, none⟩) 0 0) 0 [] rfl HO0.out _ n xs rfl HSRC.out (by unfold maxLen; omega) (by omega) (by simp) ?_
               intro v1 w1 hO1 hg1 hat)
  obtain ⟨g, cap, rfl, hgB⟩ : ∃ g cap, v1 = .slice (some ⟨g, 0, none⟩) n cap ∧ w.heap.size ≤ g := by
    rcases hO1.form with ⟨rfl, _⟩ | ⟨g, cap, rfl, hg, _⟩
    · rcases hat with h | h <;> simp [Value.ownBlock] at h
    · exact ⟨g, cap, by rw [Nat.zero_add], hg⟩
  have hb1 : Below w.heap.size w w1 := ((Below.refl w.heap.size w).alloc (Nat.le_refl _) (.cells #[] 24)).grown hg1 (by simp) (fun k hk => by simp [Value.ownBlock] at hk; omega)
  have hgg : Below w.heap.size w w1 ∧ w.heap.size ≤ g := ⟨hb1, hgB⟩
  have hor : OR w1 B (.slice (some ⟨g, 0, none⟩) n cap) acc := by
    have hx := HR0.out
    refine ⟨xs, ?_, RLs.mono (fun b hb => ⟨hb.1, Nat.lt_of_lt_of_le hb.2.1 hb1.size, fun e => ?_⟩) (RLs.keep (fun p hp => hb1.cell hp.2.1) hx)⟩
    · rw [HN.out]; have h9 := hO1.mono hB; simpa using h9
    · simp [Value.ownBlock] at e; have := hb.2.1; omega
  have HO := Lib.hid hor
  have HGG := Lib.hid hgg
  have HG0 := Lib.hid (World.grownBy.refl w1 (some g))
  obtain ⟨a0, ha0⟩ : ∃ a : Addr, (⟨g, 0, none⟩ : Addr) = a := ⟨_, rfl⟩
  have HA := Lib.hid ha0
  have HA4 := Lib.hid (fun k : Nat => (show a0.add k = ⟨g, k, none⟩ by rw [← ha0, spot_add rfl]; simp))
  try rw [Nat.zero_add]
  rw [show (Value.slice (some ⟨g, 0, none⟩) n cap) = Value.slice (some a0) n cap by rw [ha0]]
  clear hor hgg hb1 hgB hO1 hg1 hat ha0 HSRC HO0 HR0 HOR0 hi' hy0 hy1 hy2
  go_wp2_with fail
  go_loopw [4] (fun x wr => ∃ (i : Nat) (X : List Rep), x = .int .i64 (i : Nat) ∧ 1 ≤ i ∧ Hid (Ins lto acc X i) ∧ OR wr B (.slice (some ⟨g, 0, none⟩) n cap) X ∧ w1.grownBy wr (some g)) (fun x _ => n - (nOf x).toNat)
  case atStart => exact ⟨1, acc, rfl, Nat.le_refl _, Lib.hid Ins.start, HO.out, HG0.out⟩
  case round =>
    obtain ⟨i, X, rfl, hi1, HI, hor, hgr⟩ := hrel
    have HR := Lib.hid hor
    have HG := Lib.hid hgr
    clear hor hgr
    by_cases hin : i < n
    · have i1 : (i : Int) < (n : Int) := by omega
      have HS := Lib.hid (HI.out.sink (by rw [HN.out]; exact hin))
      go_wp2_with fail
      go_loopw [5] (fun x wr => ∃ (j : Nat) (X : List Rep), x = .int .i64 (j : Nat) ∧ Hid (Sink lto acc X i j) ∧ OR wr B (.slice (some ⟨g, 0, none⟩) n cap) X ∧ w1.grownBy wr (some g)) (fun x _ => (nOf x).toNat)
      case atStart => exact ⟨i, X, rfl, HS, HR.out, HG.out⟩
      case round =>
        obtain ⟨j, X2, rfl, HS2, hor2, hgr2⟩ := hrel
        have HR2 := Lib.hid hor2
        have HG2 := Lib.hid hgr2
        clear hor2 hgr2
        cases j with
        | zero =>
          have HI2 := Lib.hid HS2.out.zero
          go_wp2_with fail
          go_region
          go_wp2_with fail
          go_roundw
          case rel => exact ⟨i + 1, X2, by go_num, by omega, HI2, by first | exact HR2.out | exact HR2.out.drew, by first | exact HG2.out | exact grown_drew HG2.out⟩
          case measure => simp [nOf]; omega
        | succ j =>
          obtain ⟨P, y, x, Q, rfl, hP, hs1, hs2⟩ := HS2.out.step
          have hXn := HS2.out.len
          rw [HN.out] at hXn
          obtain ⟨E1, f1, E2, f2, xp, xq, hown, hxp, hrP, hry, hrx, hrQ⟩ := HR2.out.split hXn
          obtain ⟨hjn, ⟨a0', a1, a2, a3⟩, ⟨b0, b1, b2, b3⟩, hfz⟩ := hown.eightAt (hxp.trans (by rw [hP]))
          have i2 : (0 : Int) < (j : Int) + 1 := by omega
          have HH1 := Lib.hid hs1
          have HH2 := Lib.hid hs2
          have HOWN := Lib.hid hown
          have HFZ := Lib.hid hfz
          have HxP := Lib.hid hxp
          have HrP := Lib.hid hrP
          have Hry := Lib.hid hry
          have Hrx := Lib.hid hrx
          have HrQ := Lib.hid hrQ
          have HpP := Lib.hid hP
          clear hs1 hs2 hown hfz hxp hrP hry hrx hrQ hP
          have hg := (HOWN.out.lt g rfl).2
          have HK := Lib.hid (fun w' (hb : Below wr.heap.size wr w') => (show Below wr.heap.size wr w' ∧ w'.cell? (a0.add (j * 4)) = some (.int .i64 y.k) ∧ w'.cell? ⟨(a0.add (j * 4)).block, (a0.add (j * 4)).off + 1, none⟩ = some (sv y.s) ∧ w'.cell? ⟨(a0.add (j * 4)).block, (a0.add (j * 4)).off + 2, none⟩ = some (.int .i64 y.n) ∧ w'.cell? ⟨(a0.add (j * 4)).block, (a0.add (j * 4)).off + 3, none⟩ = some (.slice E1 y.l.length f1) ∧ w'.cell? (a0.add ((j + 1) * 4)) = some (.int .i64 x.k) ∧ w'.cell? ⟨(a0.add ((j + 1) * 4)).block, (a0.add ((j + 1) * 4)).off + 1, none⟩ = some (sv x.s) ∧ w'.cell? ⟨(a0.add ((j + 1) * 4)).block, (a0.add ((j + 1) * 4)).off + 2, none⟩ = some (.int .i64 x.n) ∧ w'.cell? ⟨(a0.add ((j + 1) * 4)).block, (a0.add ((j + 1) * 4)).off + 3, none⟩ = some (.slice E2 x.l.length f2) from by
            simp only [HA4.out]
            have e : (j + 1) * 4 = j * 4 + 4 := by omega
            rw [e]
            exact ⟨hb, (hb.cell (p := ⟨g, j * 4, none⟩) hg).trans a0', (hb.cell (p := ⟨g, j * 4 + 1, none⟩) hg).trans a1, (hb.cell (p := ⟨g, j * 4 + 2, none⟩) hg).trans a2, (hb.cell (p := ⟨g, j * 4 + 3, none⟩) hg).trans a3, (hb.cell (p := ⟨g, j * 4 + 4, none⟩) hg).trans b0, (hb.cell (p := ⟨g, j * 4 + 5, none⟩) hg).trans b1, (hb.cell (p := ⟨g, j * 4 + 6, none⟩) hg).trans b2, (hb.cell (p := ⟨g, j * 4 + 7, none⟩) hg).trans b3⟩))
          have HC := Lib.hid (fun w' (hb : Below wr.heap.size wr w') => order_is (a := x) (b := y) (Liv.below (Hrx.out.mono (fun b hb => hb.2.1)) hb) (Liv.below (Hry.out.mono (fun b hb => hb.2.1)) hb))
          have hS0 : Below wr.heap.size wr wr := Below.refl _ _
          obtain ⟨o, ho⟩ : ∃ o, ord x y = o := ⟨_, rfl⟩
          rw [ho] at HC
          have HLT := Lib.hid (show lto x y = decide (o < 0) by rw [lto_neg, ho])
          have j1 : (j : Int) + 1 < (n : Int) := by omega
          have j2 : (j : Int) < (n : Int) := by omega
          have j3 : (0 : Int) ≤ (j : Int) := by omega
          have j4 : j < n := by omega
          have j5 : j + 1 < n := by omega
          have j6 : (0 : Int) ≤ (j : Int) + 1 := by omega
          have j7 : IntKind.i64.wrap (j : Int) = (j : Int) := wrap_small _ (by omega) (by omega)
          clear a0' a1 a2 a3 b0 b1 b2 b3 ho
          by_cases hneg : o < 0
          · have HS3 := Lib.hid (HH1.out (by rw [HLT.out]; exact decide_eq_true hneg))
            go_wp2_with fail
            go_region_held (fun w' => Below wr.heap.size wr w' ∧ w'.cell? (a0.add (j * 4)) = some (.int .i64 y.k) ∧ w'.cell? ⟨(a0.add (j * 4)).block, (a0.add (j * 4)).off + 1, none⟩ = some (sv y.s) ∧ w'.cell? ⟨(a0.add (j * 4)).block, (a0.add (j * 4)).off + 2, none⟩ = some (.int .i64 y.n) ∧ w'.cell? ⟨(a0.add (j * 4)).block, (a0.add (j * 4)).off + 3, none⟩ = some (.slice E1 y.l.length f1) ∧ w'.cell? (a0.add ((j + 1) * 4)) = some (.int .i64 x.k) ∧ w'.cell? ⟨(a0.add ((j + 1) * 4)).block, (a0.add ((j + 1) * 4)).off + 1, none⟩ = some (sv x.s) ∧ w'.cell? ⟨(a0.add ((j + 1) * 4)).block, (a0.add ((j + 1) * 4)).off + 2, none⟩ = some (.int .i64 x.n) ∧ w'.cell? ⟨(a0.add ((j + 1) * 4)).block, (a0.add ((j + 1) * 4)).off + 3, none⟩ = some (.slice E2 x.l.length f2))
              (first | exact HK.out _ hS0 | exact HK.out _ hS0.drew)
              (first
                | (go_at_call 18; refine (HC.out _ (by first | exact hS0 | exact hS0.drew)).mono ?_; rintro e w3 ⟨rfl, hb3⟩; have hS0 := below_trans (by first | exact hS0 | exact hS0.drew) hb3))
            have hown3 := HOWN.out.below_ hS0
            obtain ⟨_, _, _, hfz3⟩ := hown3.eightAt (HxP.out.trans (by rw [HpP.out]))
            obtain ⟨c0, c1, c2, c3, c4, c5, c6, c7⟩ := (HK.out w3 hS0).2
            obtain ⟨z0, z1, z2, z3, z4, z5, z6, z7⟩ : w3.frozen? (a0.add (j * 4)) = false ∧ w3.frozen? ⟨(a0.add (j * 4)).block, (a0.add (j * 4)).off + 1, none⟩ = false ∧ w3.frozen? ⟨(a0.add (j * 4)).block, (a0.add (j * 4)).off + 2, none⟩ = false ∧ w3.frozen? ⟨(a0.add (j * 4)).block, (a0.add (j * 4)).off + 3, none⟩ = false ∧ w3.frozen? (a0.add ((j + 1) * 4)) = false ∧ w3.frozen? ⟨(a0.add ((j + 1) * 4)).block, (a0.add ((j + 1) * 4)).off + 1, none⟩ = false ∧ w3.frozen? ⟨(a0.add ((j + 1) * 4)).block, (a0.add ((j + 1) * 4)).off + 2, none⟩ = false ∧ w3.frozen? ⟨(a0.add ((j + 1) * 4)).block, (a0.add ((j + 1) * 4)).off + 3, none⟩ = false := by
              simp only [HA4.out]
              have e : (j + 1) * 4 = j * 4 + 4 := by omega
              rw [e]
              exact ⟨hfz3 0 (by omega), hfz3 1 (by omega), hfz3 2 (by omega), hfz3 3 (by omega), hfz3 4 (by omega), hfz3 5 (by omega), hfz3 6 (by omega), hfz3 7 (by omega)⟩
            have HOWN3 := Lib.hid hown3
            have s1 : ((w3.setCell (a0.add ((j + 1) * 4)) (.int .i64 y.k))).cell? (⟨(a0.add ((j + 1) * 4)).block, (a0.add ((j + 1) * 4)).off + 1, none⟩) = some (sv x.s) := (show (puts w3 [(a0.add ((j + 1) * 4), .int .i64 y.k)]).cell? (⟨(a0.add ((j + 1) * 4)).block, (a0.add ((j + 1) * 4)).off + 1, none⟩) = some (sv x.s) from (puts_cell _ _ _ (by intro q hq; simp only [HA4.out, List.mem_cons, List.mem_nil_iff, or_false] at hq ⊢; rcases hq with rfl <;> simp <;> omega)).trans c5)
            have s2 : (((w3.setCell (a0.add ((j + 1) * 4)) (.int .i64 y.k)).setCell (⟨(a0.add ((j + 1) * 4)).block, (a0.add ((j + 1) * 4)).off + 1, none⟩) (.string (bs y.s)))).cell? (⟨(a0.add ((j + 1) * 4)).block, (a0.add ((j + 1) * 4)).off + 2, none⟩) = some (.int .i64 x.n) := (show (puts w3 [(a0.add ((j + 1) * 4), .int .i64 y.k), (⟨(a0.add ((j + 1) * 4)).block, (a0.add ((j + 1) * 4)).off + 1, none⟩, .string (bs y.s))]).cell? (⟨(a0.add ((j + 1) * 4)).block, (a0.add ((j + 1) * 4)).off + 2, none⟩) = some (.int .i64 x.n) from (puts_cell _ _ _ (by intro q hq; simp only [HA4.out, List.mem_cons, List.mem_nil_iff, or_false] at hq ⊢; rcases hq with rfl | rfl <;> simp <;> omega)).trans c6)
            have s3 : ((((w3.setCell (a0.add ((j + 1) * 4)) (.int .i64 y.k)).setCell (⟨(a0.add ((j + 1) * 4)).block, (a0.add ((j + 1) * 4)).off + 1, none⟩) (.string (bs y.s))).setCell (⟨(a0.add ((j + 1) * 4)).block, (a0.add ((j + 1) * 4)).off + 2, none⟩) (.int .i64 y.n))).cell? (⟨(a0.add ((j + 1) * 4)).block, (a0.add ((j + 1) * 4)).off + 3, none⟩) = some (.slice E2 x.l.length f2) := (show (puts w3 [(a0.add ((j + 1) * 4), .int .i64 y.k), (⟨(a0.add ((j + 1) * 4)).block, (a0.add ((j + 1) * 4)).off + 1, none⟩, .string (bs y.s)), (⟨(a0.add ((j + 1) * 4)).block, (a0.add ((j + 1) * 4)).off + 2, none⟩, .int .i64 y.n)]).cell? (⟨(a0.add ((j + 1) * 4)).block, (a0.add ((j + 1) * 4)).off + 3, none⟩) = some (.slice E2 x.l.length f2) from (puts_cell _ _ _ (by intro q hq; simp only [HA4.out, List.mem_cons, List.mem_nil_iff, or_false] at hq ⊢; rcases hq with rfl | rfl | rfl <;> simp <;> omega)).trans c7)
            have s4 : (((((w3.setCell (a0.add ((j + 1) * 4)) (.int .i64 y.k)).setCell (⟨(a0.add ((j + 1) * 4)).block, (a0.add ((j + 1) * 4)).off + 1, none⟩) (.string (bs y.s))).setCell (⟨(a0.add ((j + 1) * 4)).block, (a0.add ((j + 1) * 4)).off + 2, none⟩) (.int .i64 y.n)).setCell (⟨(a0.add ((j + 1) * 4)).block, (a0.add ((j + 1) * 4)).off + 3, none⟩) (.slice E1 y.l.length f1))).cell? (a0.add (j * 4)) = some (.int .i64 y.k) := (show (puts w3 [(a0.add ((j + 1) * 4), .int .i64 y.k), (⟨(a0.add ((j + 1) * 4)).block, (a0.add ((j + 1) * 4)).off + 1, none⟩, .string (bs y.s)), (⟨(a0.add ((j + 1) * 4)).block, (a0.add ((j + 1) * 4)).off + 2, none⟩, .int .i64 y.n), (⟨(a0.add ((j + 1) * 4)).block, (a0.add ((j + 1) * 4)).off + 3, none⟩, .slice E1 y.l.length f1)]).cell? (a0.add (j * 4)) = some (.int .i64 y.k) from (puts_cell _ _ _ (by intro q hq; simp only [HA4.out, List.mem_cons, List.mem_nil_iff, or_false] at hq ⊢; rcases hq with rfl | rfl | rfl | rfl <;> simp <;> omega)).trans c0)
            have s5 : ((((((w3.setCell (a0.add ((j + 1) * 4)) (.int .i64 y.k)).setCell (⟨(a0.add ((j + 1) * 4)).block, (a0.add ((j + 1) * 4)).off + 1, none⟩) (.string (bs y.s))).setCell (⟨(a0.add ((j + 1) * 4)).block, (a0.add ((j + 1) * 4)).off + 2, none⟩) (.int .i64 y.n)).setCell (⟨(a0.add ((j + 1) * 4)).block, (a0.add ((j + 1) * 4)).off + 3, none⟩) (.slice E1 y.l.length f1)).setCell (a0.add (j * 4)) (.int .i64 x.k))).cell? (⟨(a0.add (j * 4)).block, (a0.add (j * 4)).off + 1, none⟩) = some (sv y.s) := (show (puts w3 [(a0.add ((j + 1) * 4), .int .i64 y.k), (⟨(a0.add ((j + 1) * 4)).block, (a0.add ((j + 1) * 4)).off + 1, none⟩, .string (bs y.s)), (⟨(a0.add ((j + 1) * 4)).block, (a0.add ((j + 1) * 4)).off + 2, none⟩, .int .i64 y.n), (⟨(a0.add ((j + 1) * 4)).block, (a0.add ((j + 1) * 4)).off + 3, none⟩, .slice E1 y.l.length f1), (a0.add (j * 4), .int .i64 x.k)]).cell? (⟨(a0.add (j * 4)).block, (a0.add (j * 4)).off + 1, none⟩) = some (sv y.s) from (puts_cell _ _ _ (by intro q hq; simp only [HA4.out, List.mem_cons, List.mem_nil_iff, or_false] at hq ⊢; rcases hq with rfl | rfl | rfl | rfl | rfl <;> simp <;> omega)).trans c1)
            have s6 : (((((((w3.setCell (a0.add ((j + 1) * 4)) (.int .i64 y.k)).setCell (⟨(a0.add ((j + 1) * 4)).block, (a0.add ((j + 1) * 4)).off + 1, none⟩) (.string (bs y.s))).setCell (⟨(a0.add ((j + 1) * 4)).block, (a0.add ((j + 1) * 4)).off + 2, none⟩) (.int .i64 y.n)).setCell (⟨(a0.add ((j + 1) * 4)).block, (a0.add ((j + 1) * 4)).off + 3, none⟩) (.slice E1 y.l.length f1)).setCell (a0.add (j * 4)) (.int .i64 x.k)).setCell (⟨(a0.add (j * 4)).block, (a0.add (j * 4)).off + 1, none⟩) (.string (bs x.s)))).cell? (⟨(a0.add (j * 4)).block, (a0.add (j * 4)).off + 2, none⟩) = some (.int .i64 y.n) := (show (puts w3 [(a0.add ((j + 1) * 4), .int .i64 y.k), (⟨(a0.add ((j + 1) * 4)).block, (a0.add ((j + 1) * 4)).off + 1, none⟩, .string (bs y.s)), (⟨(a0.add ((j + 1) * 4)).block, (a0.add ((j + 1) * 4)).off + 2, none⟩, .int .i64 y.n), (⟨(a0.add ((j + 1) * 4)).block, (a0.add ((j + 1) * 4)).off + 3, none⟩, .slice E1 y.l.length f1), (a0.add (j * 4), .int .i64 x.k), (⟨(a0.add (j * 4)).block, (a0.add (j * 4)).off + 1, none⟩, .string (bs x.s))]).cell? (⟨(a0.add (j * 4)).block, (a0.add (j * 4)).off + 2, none⟩) = some (.int .i64 y.n) from (puts_cell _ _ _ (by intro q hq; simp only [HA4.out, List.mem_cons, List.mem_nil_iff, or_false] at hq ⊢; rcases hq with rfl | rfl | rfl | rfl | rfl | rfl <;> simp <;> omega)).trans c2)
            have s7 : ((((((((w3.setCell (a0.add ((j + 1) * 4)) (.int .i64 y.k)).setCell (⟨(a0.add ((j + 1) * 4)).block, (a0.add ((j + 1) * 4)).off + 1, none⟩) (.string (bs y.s))).setCell (⟨(a0.add ((j + 1) * 4)).block, (a0.add ((j + 1) * 4)).off + 2, none⟩) (.int .i64 y.n)).setCell (⟨(a0.add ((j + 1) * 4)).block, (a0.add ((j + 1) * 4)).off + 3, none⟩) (.slice E1 y.l.length f1)).setCell (a0.add (j * 4)) (.int .i64 x.k)).setCell (⟨(a0.add (j * 4)).block, (a0.add (j * 4)).off + 1, none⟩) (.string (bs x.s))).setCell (⟨(a0.add (j * 4)).block, (a0.add (j * 4)).off + 2, none⟩) (.int .i64 x.n))).cell? (⟨(a0.add (j * 4)).block, (a0.add (j * 4)).off + 3, none⟩) = some (.slice E1 y.l.length f1) := (show (puts w3 [(a0.add ((j + 1) * 4), .int .i64 y.k), (⟨(a0.add ((j + 1) * 4)).block, (a0.add ((j + 1) * 4)).off + 1, none⟩, .string (bs y.s)), (⟨(a0.add ((j + 1) * 4)).block, (a0.add ((j + 1) * 4)).off + 2, none⟩, .int .i64 y.n), (⟨(a0.add ((j + 1) * 4)).block, (a0.add ((j + 1) * 4)).off + 3, none⟩, .slice E1 y.l.length f1), (a0.add (j * 4), .int .i64 x.k), (⟨(a0.add (j * 4)).block, (a0.add (j * 4)).off + 1, none⟩, .string (bs x.s)), (⟨(a0.add (j * 4)).block, (a0.add (j * 4)).off + 2, none⟩, .int .i64 x.n)]).cell? (⟨(a0.add (j * 4)).block, (a0.add (j * 4)).off + 3, none⟩) = some (.slice E1 y.l.length f1) from (puts_cell _ _ _ (by intro q hq; simp only [HA4.out, List.mem_cons, List.mem_nil_iff, or_false] at hq ⊢; rcases hq with rfl | rfl | rfl | rfl | rfl | rfl | rfl <;> simp <;> omega)).trans c3)
            have HS0 := Lib.hid hS0
            clear hown3 hfz3 hS0
            go_wp2_with fail
            go_region
            have hW4 : ((((((((w3.setCell (a0.add ((j + 1) * 4)) (.int .i64 y.k)).setCell (⟨(a0.add ((j + 1) * 4)).block, (a0.add ((j + 1) * 4)).off + 1, none⟩) (.string (bs y.s))).setCell (⟨(a0.add ((j + 1) * 4)).block, (a0.add ((j + 1) * 4)).off + 2, none⟩) (.int .i64 y.n)).setCell (⟨(a0.add ((j + 1) * 4)).block, (a0.add ((j + 1) * 4)).off + 3, none⟩) (.slice E1 y.l.length f1)).setCell (a0.add (j * 4)) (.int .i64 x.k)).setCell (⟨(a0.add (j * 4)).block, (a0.add (j * 4)).off + 1, none⟩) (.string (bs x.s))).setCell (⟨(a0.add (j * 4)).block, (a0.add (j * 4)).off + 2, none⟩) (.int .i64 x.n)).setCell (⟨(a0.add (j * 4)).block, (a0.add (j * 4)).off + 3, none⟩) (.slice E2 x.l.length f2)) = putAt (putAt w3 g (j * 4 + 4) (.int .i64 y.k) (sv y.s) (.int .i64 y.n) (.slice E1 y.l.length f1)) g (j * 4) (.int .i64 x.k) (sv x.s) (.int .i64 x.n) (.slice E2 x.l.length f2) := by
              have e : (j + 1) * 4 = j * 4 + 4 := by omega
              simp only [HA4.out, e]
              rfl
            rw [hW4]
            have HOR4 := Lib.hid (OR.swapped hXn HS0.out HOWN.out (HxP.out.trans (by rw [HpP.out])) HrP.out Hry.out Hrx.out HrQ.out)
            have HGR4 := Lib.hid (putAt_grown (putAt_grown (grown_below HG2.out HS0.out) (j * 4 + 4) (.int .i64 y.k) (sv y.s) (.int .i64 y.n) (.slice E1 y.l.length f1)) (j * 4) (.int .i64 x.k) (sv x.s) (.int .i64 x.n) (.slice E2 x.l.length f2))
            clear hW4 s1 s2 s3 s4 s5 s6 s7 c0 c1 c2 c3 c4 c5 c6 c7 z0 z1 z2 z3 z4 z5 z6 z7
            generalize putAt (putAt w3 g (j * 4 + 4) (.int .i64 y.k) (sv y.s) (.int .i64 y.n) (.slice E1 y.l.length f1)) g (j * 4) (.int .i64 x.k) (sv x.s) (.int .i64 x.n) (.slice E2 x.l.length f2) = W4 at HOR4 HGR4 ⊢
            go_wp2_with fail
            go_roundw
            case rel => exact ⟨j, _, by first | rfl | go_num, HS3, by first | exact HOR4.out.drew | exact HOR4.out, by first | exact grown_drew HGR4.out | exact HGR4.out⟩
            case measure => simp [nOf]
          · have HS3 := Lib.hid (HH2.out (by rw [HLT.out]; exact decide_eq_false hneg))
            go_wp2_with fail
            go_region_held (fun w' => Below wr.heap.size wr w' ∧ w'.cell? (a0.add (j * 4)) = some (.int .i64 y.k) ∧ w'.cell? ⟨(a0.add (j * 4)).block, (a0.add (j * 4)).off + 1, none⟩ = some (sv y.s) ∧ w'.cell? ⟨(a0.add (j * 4)).block, (a0.add (j * 4)).off + 2, none⟩ = some (.int .i64 y.n) ∧ w'.cell? ⟨(a0.add (j * 4)).block, (a0.add (j * 4)).off + 3, none⟩ = some (.slice E1 y.l.length f1) ∧ w'.cell? (a0.add ((j + 1) * 4)) = some (.int .i64 x.k) ∧ w'.cell? ⟨(a0.add ((j + 1) * 4)).block, (a0.add ((j + 1) * 4)).off + 1, none⟩ = some (sv x.s) ∧ w'.cell? ⟨(a0.add ((j + 1) * 4)).block, (a0.add ((j + 1) * 4)).off + 2, none⟩ = some (.int .i64 x.n) ∧ w'.cell? ⟨(a0.add ((j + 1) * 4)).block, (a0.add ((j + 1) * 4)).off + 3, none⟩ = some (.slice E2 x.l.length f2))
              (first | exact HK.out _ hS0 | exact HK.out _ hS0.drew)
              (first
                | (go_at_call 18; refine (HC.out _ (by first | exact hS0 | exact hS0.drew)).mono ?_; rintro e w3 ⟨rfl, hb3⟩; have hS0 := below_trans (by first | exact hS0 | exact hS0.drew) hb3))
            go_wp2_with fail
            go_roundw
            case rel => exact ⟨i + 1, _, by go_num, by omega, HS3, HR2.out.below hS0, grown_below HG2.out hS0⟩
            case measure => simp [nOf]; omega
    · have i1 : ¬ (i : Int) < (n : Int) := by omega
      have HE := Lib.hid (HI.out.end_ (by rw [HN.out]; omega))
      go_wp2_with fail
      go_ret
      refine ⟨.slice (some ⟨g, 0, none⟩) n cap, by rw [HA.out]; rfl, by rw [← HE.out]; exact HR.out, ?_⟩
      exact below_of_grown HGG.out HG.out
end Go.Proofs.YtnmchplabaoflaaGreatDoor
