/- The walks of reply's Depth and of the law's own depth (tallboylaw17). -/
import Derived.Test.YtnmchplabaoflaaRtrC
namespace Go.Proofs.Ytnmchplabaoflaa
open Go.RowKit
set_option linter.unusedVariables false

def DepAt (f : FuncId) (r : Rep) : Prop := ∀ (w : World) (cs : List Value), dep r ≤ 1000 → Liv w r cs →
  Calls Try.prog f #[.agg cs.toArray] w fun e w' => e = .returned (.int .i64 (dep r : Nat)) ∧ Below w.heap.size w w'

set_option maxRecDepth 100000 in
set_option maxHeartbeats 8000000 in
theorem pdepth_step (k : Int) (s : List UInt8) (n : Int) (l : List Rep) (ih : ∀ r ∈ l, DepAt 15 r) : DepAt 15 (.mk k s n l) := by
  intro w cs hd hr
  obtain ⟨L, rfl, hL, hk1, hn1, hs1⟩ := hr.parts
  obtain ⟨A0, c0, xs0, rfl, _⟩ := id hL
  have HBARE := Lib.hid (fun w1 => bare_any k s n A0 l.length c0 w1)
  have hP1 : LivL w (if prt k then .slice A0 l.length c0 else .slice none 0 0) (if prt k then l else []) := by
    split
    · exact hL
    · exact LivL.nil w
  have HDE := Lib.hid (dep_mk k s n l)
  unfold bareRet at HBARE
  have hmem : ∀ r ∈ (if prt k then l else []), r ∈ l := fun r hr => by
    split at hr
    · exact hr
    · cases hr
  rw [dep_mk] at hd ⊢
  obtain ⟨S1, h1⟩ : ∃ S, (if txt k then s else []) = S := ⟨_, rfl⟩
  obtain ⟨N1, h3⟩ : ∃ S, (if k = 3 then n else 0) = S := ⟨_, rfl⟩
  obtain ⟨l1, h5⟩ : ∃ S, (if prt k then l else []) = S := ⟨_, rfl⟩
  obtain ⟨v1, h7⟩ : ∃ S, (if prt k then Value.slice A0 l.length c0 else .slice none 0 0) = S := ⟨_, rfl⟩
  rw [h1, h3, h7] at HBARE
  rw [h5, h7] at hP1
  rw [h5] at hmem hd ⊢
  obtain ⟨A, c, xs, rfl, hlc1, hcm1, hd1, hl1⟩ := hP1
  obtain ⟨N, hN⟩ : ∃ N, l1.length = N := ⟨_, rfl⟩
  have HN := Lib.hid hN
  rw [hN] at hlc1 hd1 HBARE
  have HD := Lib.hid hd1
  have HL := Lib.hid hl1
  have HMEM := Lib.hid hmem
  have HDB := Lib.hid hd
  have hc1 : N ≤ 9223372036854775807 := by unfold maxLen at hcm1; omega
  obtain ⟨nl, hnl⟩ : ∃ n, l.length = n := ⟨_, rfl⟩
  rw [hnl] at HBARE ⊢
  have HX0 := Lib.hid (show Below w.heap.size w (w.alloc (.cells #[.int .i64 k, sv s, .int .i64 n, .slice A0 nl c0] 25)) from (Below.refl _ _).alloc (Nat.le_refl _) _)
  clear hd1 hl1 hN hr hL h1 h3 h5 h7 hnl hmem hs1 hn1 hk1 HDE hd
  go_enter Try.func15, Try.ntmps15
  go_wp2_with fail
  refine (HBARE.out _).mono ?_
  rintro e w1 ⟨rfl, hb1⟩
  have HB1 := Lib.hid (HX0.out.trans (hb1.mono HX0.out.size))
  clear hb1
  go_wp2_with fail
  have HBW := Lib.hid (HB1.out.alloc HB1.out.size (.cells #[.int .i64 k, sv S1, .int .i64 N1, .slice none 0 0] 25))
  go_loopw [5, 15] (fun x y wr => ∃ i, i ≤ N ∧ y = .int .i64 (i : Nat) ∧ x = .int .i64 (dep.deps (l1.take i) : Nat) ∧ Below w.heap.size w wr) (fun x y _ => N - (nOf y).toNat)
  case atStart => exact ⟨0, Nat.zero_le _, rfl, rfl, HBW.out⟩
  case round =>
    obtain ⟨i, him, rfl, rfl, hbel⟩ := hrel
    rcases Nat.lt_or_ge i N with hlt | hge
    · obtain ⟨a1, r1, E1, f1, rfl, hSa1, hr1, hv1, p0, p1, p2, p3⟩ := (HD.out.keep (fun p hp => hbel.cell hp)).at_ (HL.out.keep (fun p hp => hbel.cell hp)) HN.out hlt
      have hlt' : (i : Int) < (N : Int) := by omega
      have hm1 := List.mem_of_getElem? hr1
      have hdt := deps_take hr1
      have hle := dep_mem hm1
      have hle2 : dep.deps (l1.take i) ≤ dep.deps l1 := deps_le _ _ (fun r hr => dep_mem (List.mem_of_mem_take hr))
      have hdb := HDB.out
      have HC := Lib.hid (ih r1 (HMEM.out r1 hm1) (wr.alloc (.cells #[.int .i64 r1.k, sv r1.s, .int .i64 r1.n, .slice E1 r1.l.length f1] 25)) [.int .i64 r1.k, sv r1.s, .int .i64 r1.n, .slice E1 r1.l.length f1] (by omega)
        (RV.mono (fun b hb => by have := hbel.size; show b < (wr.alloc _).heap.size; rw [World.size_alloc]; omega) (hv1.keep (fun p hp => World.cell?_alloc_lt wr _ p (Nat.lt_of_lt_of_le hp hbel.size)))))
      have HBE := Lib.hid hbel
      obtain ⟨D, hD⟩ : ∃ D, dep.deps (l1.take i) = D := ⟨_, rfl⟩
      obtain ⟨E, hE⟩ : ∃ D, dep r1 = D := ⟨_, rfl⟩
      rw [hD] at hle2 hdt ⊢
      rw [hE] at HC hdt hle
      have HDT := Lib.hid hdt
      have hD1 : (D : Int) ≤ 1000 := by omega
      have hE1 : (E : Int) ≤ 1000 := by omega
      have hD0 : (0 : Int) ≤ (D : Int) := by omega
      have hE0 : (0 : Int) ≤ (E : Int) := by omega
      clear hdt hle hle2 hdb hD hE hm1 hv1 hr1 hbel hSa1
      rcases Int.lt_or_le (D : Int) (E : Int) with hDE | hDE
      all_goals
        go_wp2_with fail
        refine HC.out.mono ?_
        rintro e w2 ⟨rfl, hb2⟩
        have HB2 := Lib.hid (below_trans ((Below.refl wr.heap.size wr).alloc (Nat.le_refl _) _) hb2)
        clear hb2
        go_wp2_with fail
        go_roundw
        case rel =>
          refine ⟨i + 1, by omega, by go_num, ?_, HBE.out.trans (HB2.out.mono HBE.out.size)⟩
          rw [HDT.out]
          first | rfl | (congr 1; omega)
        case measure => simp [nOf]; omega
    · have hiN : i = N := by omega
      subst hiN
      have hfull : l1.take i = l1 := List.take_of_length_le (by rw [HN.out]; exact Nat.le_refl _)
      rw [hfull]
      have HBE := Lib.hid hbel
      obtain ⟨D, hD⟩ : ∃ D, dep.deps l1 = D := ⟨_, rfl⟩
      rw [hD] at HDB ⊢
      have hdb := HDB.out
      have hi1 : ¬ (i : Int) < (i : Int) := by omega
      have hD1 : (D : Int) ≤ 1000 := by omega
      have HDD := Lib.hid hD
      clear hD hfull hbel hdb
      go_wp2_with fail
      go_ret
      refine ⟨?_, HBE.out⟩
      rw [HDD.out]
      show Ending.returned (.int .i64 ((D : Int) + 1)) = _
      rfl
theorem pdepth_all : ∀ (N : Nat) (r : Rep), SizeOf.sizeOf r ≤ N → DepAt 15 r := by
  intro N
  induction N with
  | zero => intro r h; cases r; simp at h
  | succ N ih =>
    intro r h
    obtain ⟨k, s, n, l⟩ := r
    exact pdepth_step k s n l (fun q hq => ih q (by have := sizeOf_mem (k := k) (n := n) (s := s) hq; omega))
theorem pdepth_any {r : Rep} {w : World} {cs : List Value} (hd : dep r ≤ 1000) (h : Liv w r cs) :
    Calls Try.prog 15 #[.agg cs.toArray] w fun e w' => e = .returned (.int .i64 (dep r : Nat)) ∧ Below w.heap.size w w' := pdepth_all _ r (Nat.le_refl _) w cs hd h

set_option maxRecDepth 100000 in
set_option maxHeartbeats 8000000 in
theorem ldepth_step (k : Int) (s : List UInt8) (n : Int) (l : List Rep) (ih : ∀ r ∈ l, DepAt 16 r) : DepAt 16 (.mk k s n l) := by
  intro w cs hd hr
  obtain ⟨L, rfl, hL, hk1, hn1, hs1⟩ := hr.parts
  obtain ⟨A, c, xs, rfl, hlc1, hcm1, hd1, hl1⟩ := hL
  obtain ⟨N, hN⟩ : ∃ N, l.length = N := ⟨_, rfl⟩
  have HN := Lib.hid hN
  rw [hN] at hlc1 hd1 ⊢
  have HD := Lib.hid hd1
  have HL := Lib.hid hl1
  rw [dep_mk] at hd ⊢
  have hc1 : N ≤ 9223372036854775807 := by unfold maxLen at hcm1; omega
  have HX0 := Lib.hid (show Below w.heap.size w (w.alloc (.cells #[.int .i64 k, sv s, .int .i64 n, .slice A N c] 25)) from (Below.refl _ _).alloc (Nat.le_refl _) _)
  have HX1 := Lib.hid (Blk.new w 25 #[.int .i64 k, sv s, .int .i64 n, .slice A N c])
  clear hd1 hl1 hN hr hs1 hn1 hk1
  by_cases hk : 7 ≤ k ∧ k ≤ 9
  · have hp : prt k = true := by unfold prt; exact decide_eq_true (by omega)
    rw [if_pos hp] at hd ⊢
    have HDB := Lib.hid hd
    obtain ⟨hk7, hk9⟩ := hk
    clear hd hp
    go_enter Try.func16, Try.ntmps16
    go_wp2_with fail
    go_loopw [3, 4] (fun x y wr => ∃ i, i ≤ N ∧ y = .int .i64 (i : Nat) ∧ x = .int .i64 (dep.deps (l.take i) : Nat) ∧ Blk wr w.heap.size 25 #[.int .i64 k, sv s, .int .i64 n, .slice A N c] ∧ Below w.heap.size w wr) (fun x y _ => N - (nOf y).toNat)
    case atStart => exact ⟨0, Nat.zero_le _, rfl, rfl, HX1.out, HX0.out⟩
    case round =>
      obtain ⟨i, him, rfl, rfl, hbk, hbel⟩ := hrel
      have m3 := hbk.cell 3
      rcases Nat.lt_or_ge i N with hlt | hge
      · obtain ⟨a1, r1, E1, f1, rfl, hSa1, hr1, hv1, p0, p1, p2, p3⟩ := (HD.out.keep (fun p hp => hbel.cell hp)).at_ (HL.out.keep (fun p hp => hbel.cell hp)) HN.out hlt
        have hlt' : (i : Int) < (N : Int) := by omega
        have hm1 := List.mem_of_getElem? hr1
        have hdt := deps_take hr1
        have hle := dep_mem hm1
        have hle2 : dep.deps (l.take i) ≤ dep.deps l := deps_le _ _ (fun r hr => dep_mem (List.mem_of_mem_take hr))
        have hdb := HDB.out
        have HC := Lib.hid (ih r1 hm1 wr [.int .i64 r1.k, sv r1.s, .int .i64 r1.n, .slice E1 r1.l.length f1] (by omega)
          (RV.mono (fun b hb => Nat.lt_of_lt_of_le hb hbel.size) hv1))
        have HBE := Lib.hid hbel
        have HBK := Lib.hid hbk
        obtain ⟨D, hD⟩ : ∃ D, dep.deps (l.take i) = D := ⟨_, rfl⟩
        obtain ⟨E, hE⟩ : ∃ D, dep r1 = D := ⟨_, rfl⟩
        rw [hD] at hle2 hdt ⊢
        rw [hE] at HC hdt hle
        have HDT := Lib.hid hdt
        have hD1 : (D : Int) ≤ 1000 := by omega
        have hE1 : (E : Int) ≤ 1000 := by omega
        have hD0 : (0 : Int) ≤ (D : Int) := by omega
        have hE0 : (0 : Int) ≤ (E : Int) := by omega
        clear hdt hle hle2 hdb hD hE hm1 hv1 hr1 hbel hSa1 hbk
        rcases Int.lt_or_le (D : Int) (E : Int) with hDE | hDE
        all_goals
          go_wp2_with fail
          refine HC.out.mono ?_
          rintro e w2 ⟨rfl, hb2⟩
          have HB2 := Lib.hid hb2
          clear hb2
          go_wp2_with fail
          go_roundw
          case rel =>
            refine ⟨i + 1, by omega, by go_num, ?_, HBK.out.below HB2.out HBK.out.lt, HBE.out.trans (HB2.out.mono HBE.out.size)⟩
            rw [HDT.out]
            first | rfl | (congr 1; omega)
          case measure => simp [nOf]; omega
      · have hiN : i = N := by omega
        subst hiN
        have hfull : l.take i = l := List.take_of_length_le (by rw [HN.out]; exact Nat.le_refl _)
        rw [hfull]
        have HBE := Lib.hid hbel
        obtain ⟨D, hD⟩ : ∃ D, dep.deps l = D := ⟨_, rfl⟩
        rw [hD] at HDB ⊢
        have hdb := HDB.out
        have hi1 : ¬ (i : Int) < (i : Int) := by omega
        have hD1 : (D : Int) ≤ 1000 := by omega
        have hD0 : (0 : Int) ≤ (D : Int) := by omega
        have HDD := Lib.hid hD
        clear hD hfull hbel hdb hbk
        go_wp2_with fail
        go_ret
        refine ⟨?_, HBE.out⟩
        rw [HDD.out]
        first
          | (show Ending.returned (.int .i64 (1 + (D : Int))) = _; congr 2; omega)
          | (show Ending.returned (.int .i64 ((D : Int) + 1)) = _; rfl)
  · have hp : prt k = false := by unfold prt; exact decide_eq_false (by omega)
    rw [if_neg (by rw [hp]; decide)] at hd ⊢
    clear hd hp
    rcases (show k < 7 ∨ (7 ≤ k ∧ 9 < k) by omega) with h1 | ⟨h1, h2⟩
    all_goals
      clear hk
      go_enter Try.func16, Try.ntmps16
      go_wp2_with fail
      go_ret
      exact ⟨rfl, HX0.out⟩
theorem ldepth_all : ∀ (N : Nat) (r : Rep), SizeOf.sizeOf r ≤ N → DepAt 16 r := by
  intro N
  induction N with
  | zero => intro r h; cases r; simp at h
  | succ N ih =>
    intro r h
    obtain ⟨k, s, n, l⟩ := r
    exact ldepth_step k s n l (fun q hq => ih q (by have := sizeOf_mem (k := k) (n := n) (s := s) hq; omega))
theorem ldepth_any {r : Rep} {w : World} {cs : List Value} (hd : dep r ≤ 1000) (h : Liv w r cs) :
    Calls Try.prog 16 #[.agg cs.toArray] w fun e w' => e = .returned (.int .i64 (dep r : Nat)) ∧ Below w.heap.size w w' := ldepth_all _ r (Nat.le_refl _) w cs hd h
end Go.Proofs.Ytnmchplabaoflaa
