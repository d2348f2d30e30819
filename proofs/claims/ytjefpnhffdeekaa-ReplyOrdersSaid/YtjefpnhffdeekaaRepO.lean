/- Replies that are the same: the walk of the reference's Order. -/
import Derived.Test.YtjefpnhffdeekaaRepN
import Derived.Deep.QuietTactic
import Derived.BigQuiet
import Derived.Deep.RegionHeld3
import Derived.Outline
namespace Go.Proofs.Ytjefpnhffdeekaa
open Go.RowKit
set_option linter.unusedVariables false

theorem ret_b3 {a b c a' b' c' : Bool} (h1 : a = a') (h2 : b = b') (h3 : c = c') : Ending.returned (.tuple #[.bool a, .bool b, .bool c]) = .returned (.tuple #[.bool a', .bool b', .bool c']) := by rw [h1, h2, h3]
theorem shows_any (k : Int) (w : World) : Calls Try.prog 35 #[.int .i64 k] w fun e w' => e = .returned (.tuple #[.bool (txt k), .bool (decide (k = 3)), .bool (prt k)]) ∧ w = w' := by
  go_enter Try.func35, Try.ntmps35
  rcases (show k = 1 ∨ k = 2 ∨ k = 3 ∨ k = 4 ∨ k = 7 ∨ k = 8 ∨ k = 9 ∨ (k ≠ 1 ∧ k ≠ 2 ∧ k ≠ 3 ∧ k ≠ 4 ∧ k ≠ 7 ∧ k ≠ 8 ∧ k ≠ 9) by omega) with rfl | rfl | rfl | rfl | rfl | rfl | rfl | ⟨h1, h2, h3, h4, h7, h8, h9⟩
  all_goals first
    | (go_wp2_with fail
       go_ret3
       exact ⟨rfl, rfl⟩)
    | (have Ht : txt k = false := decide_eq_false (by omega)
       have Hp : prt k = false := decide_eq_false (by omega)
       have Hi : decide (k = 3) = false := decide_eq_false (by omega)
       rw [Ht, Hp, Hi]
       clear Ht Hp Hi
       have e1 : (k == 1) = false := by simpa using h1
       have e2 : (k == 2) = false := by simpa using h2
       have e3 : (k == 3) = false := by simpa using h3
       have e4 : (k == 4) = false := by simpa using h4
       have e7 : (k == 7) = false := by simpa using h7
       have e8 : (k == 8) = false := by simpa using h8
       have e9 : (k == 9) = false := by simpa using h9
       clear h1 h2 h3 h4 h7 h8 h9
       go_wp2_with fail
       go_ret3
       exact ⟨rfl, rfl⟩)
theorem shows_is {k : Int} {t i p : Bool} (w : World) (ht : txt k = t) (hi : decide (k = 3) = i) (hp : prt k = p) : Calls Try.prog 35 #[.int .i64 k] w fun e w' => e = .returned (.tuple #[.bool t, .bool i, .bool p]) ∧ w = w' := by
  subst ht; subst hi; subst hp; exact shows_any k w

set_option maxRecDepth 100000 in
set_option maxHeartbeats 8000000 in
theorem order_same : ∀ (N : Nat) (a b : Rep) (w : World) (cs cs' : List Value), SizeOf.sizeOf a ≤ N → Liv w a cs → Liv w b cs' → a.norm = b.norm →
    Calls Try.prog 21 #[.agg cs.toArray, .agg cs'.toArray] w fun e w' => e = .returned (.int .i64 0) ∧ Below w.heap.size w w' := by
  intro N
  induction N with
  | zero => intro a b w cs cs' h; cases a; simp at h
  | succ N ih =>
    intro a b w cs cs' hN ha hb hab
    obtain ⟨k, s, n, l⟩ := a
    obtain ⟨k', s', n', l'⟩ := b
    obtain ⟨A, c, xs, rfl, hk1, hn1, hs1, hlc1, hcm1, hd1, hl1⟩ := ha.fields
    obtain ⟨A', c', xs', rfl, hk2, hn2, hs2, hlc2, hcm2, hd2, hl2⟩ := hb.fields
    simp only [Rep.norm, Rep.mk.injEq] at hab
    obtain ⟨rfl, hss, hnn, hll⟩ := hab
    simp only [Rep.k, Rep.s, Rep.n, Rep.l] at *
    have hb1 : Below w.heap.size w ((w.alloc (.cells #[.int .i64 k, sv s, .int .i64 n, .slice A l.length c] 25)).alloc (.cells #[.int .i64 k, sv s', .int .i64 n', .slice A' l'.length c'] 25)) := ((Below.refl _ _).alloc (Nat.le_refl _) _).alloc (by simp) _
    have HB1 := Lib.hid hb1
    clear hb1
    rcases ht : txt k with _ | _
    · rcases hp : prt k with _ | _
      · by_cases hk3 : k = 3
        · rw [if_pos hk3, if_pos hk3] at hnn
          subst hnn
          have hd3 : decide (k = 3) = true := by simpa using hk3
          have hsh := fun w => shows_is w ht hd3 hp
          clear hk3 ht hp hd3
          go_enter Try.func21, Try.ntmps21
          go_wp2_with fail
          refine (hsh _).mono ?_
          rintro e w1 ⟨rfl, rfl⟩
          go_wp2_with fail
          go_ret
          exact ⟨rfl, HB1.out⟩
        · have hd3 : decide (k = 3) = false := by simpa using hk3
          have hsh := fun w => shows_is w ht hd3 hp
          clear hk3 ht hp hd3
          go_enter Try.func21, Try.ntmps21
          go_wp2_with fail
          refine (hsh _).mono ?_
          rintro e w1 ⟨rfl, rfl⟩
          go_wp2_with fail
          go_ret
          exact ⟨rfl, HB1.out⟩
      · have hk3 : ¬ k = 3 := by intro e; rw [e] at hp; exact absurd hp (by decide)
        have hd3 : decide (k = 3) = false := by simpa using hk3
        have hsh := fun w => shows_is w ht hd3 hp
        rw [if_pos hp, if_pos hp] at hll
        have hlen := same_len hll
        have HL := Lib.hid hll
        have Ha := Lib.hid (Liv.below ha HB1.out)
        have Hb := Lib.hid (Liv.below hb HB1.out)
        have hX1 : Blk ((w.alloc (.cells #[.int .i64 k, sv s, .int .i64 n, .slice A l.length c] 25)).alloc (.cells #[.int .i64 k, sv s', .int .i64 n', .slice A' l'.length c'] 25)) w.heap.size 25 #[.int .i64 k, sv s, .int .i64 n, .slice A l.length c] := (Blk.new w _ _).alloc _
        have hX2 : Blk ((w.alloc (.cells #[.int .i64 k, sv s, .int .i64 n, .slice A l.length c] 25)).alloc (.cells #[.int .i64 k, sv s', .int .i64 n', .slice A' l'.length c'] 25)) (w.heap.size + 1) 25 #[.int .i64 k, sv s', .int .i64 n', .slice A' l'.length c'] := by
          have := Blk.new (w.alloc (.cells #[.int .i64 k, sv s, .int .i64 n, .slice A l.length c] 25)) 25 #[.int .i64 k, sv s', .int .i64 n', .slice A' l'.length c']
          simpa using this
        have HX1 := Lib.hid hX1
        have HX2 := Lib.hid hX2
        have HD1 := Lib.hid hd1
        have HD2 := Lib.hid hd2
        have HL1 := Lib.hid hl1
        have HL2 := Lib.hid hl2
        obtain ⟨m, hm⟩ : ∃ m, l.length = m := ⟨_, rfl⟩
        have HM := Lib.hid hm
        have HM2 := Lib.hid (hlen.symm.trans hm)
        clear ha hb hX1 hX2 hd1 hd2 hl1 hl2 hll
        rw [← hlen, hm] at HX1 HX2 HD2 HB1
        rw [hm] at HD1 hlc1
        rw [← hlen, hm] at hlc2
        rw [← hlen, hm]
        clear hlen hm
        unfold maxLen at hcm1

        go_enter Try.func21, Try.ntmps21
        go_wp2_with fail
        refine (hsh _).mono ?_
        rintro e w1 ⟨rfl, rfl⟩
        go_wp2_with fail
        go_loopw [8] (fun x wr => ∃ i, i ≤ m ∧ x = .int .i64 (i : Nat) ∧ Blk wr w.heap.size 25 #[.int .i64 k, sv s, .int .i64 n, .slice A m c] ∧ Blk wr (w.heap.size + 1) 25 #[.int .i64 k, sv s', .int .i64 n', .slice A' m c'] ∧ Below w.heap.size w wr) (fun x _ => m - (intOf x).toNat)
        case atStart => exact ⟨0, Nat.zero_le _, rfl, HX1.out, HX2.out, HB1.out⟩
        case round =>
          obtain ⟨i, him, rfl, hB1, hB2, hbel⟩ := hrel
          have c3 := hB1.cell 3
          have d3 := hB2.cell 3
          rcases Nat.lt_or_ge i m with hlt | hge
          · obtain ⟨a1, r1, E1, f1, rfl, hSa1, hr1, hv1, p0, p1, p2, p3⟩ := (HD1.out.keep (fun p hp => hbel.cell hp)).at_ (HL1.out.keep (fun p hp => hbel.cell hp)) HM.out hlt
            obtain ⟨a2, r2, E2, f2, rfl, hSa2, hr2, hv2, q0, q1, q2, q3⟩ := (HD2.out.keep (fun p hp => hbel.cell hp)).at_ (HL2.out.keep (fun p hp => hbel.cell hp)) HM2.out hlt
            have HC := Lib.hid (fun w' (hb : Below wr.heap.size wr w') => ih r1 r2 w' _ _ (by have := sizeOf_mem (k := k) (n := n) (s := s) (List.mem_of_getElem? hr1); omega) (Liv.below (hv1.mono (fun b hb => Nat.lt_of_lt_of_le hb hbel.size)) hb) (Liv.below (hv2.mono (fun b hb => Nat.lt_of_lt_of_le hb hbel.size)) hb) (same_at HL.out hr1 hr2))
            have hbs : w.heap.size ≤ wr.heap.size := hbel.size
            have HK := Lib.hid (fun w' (hb : Below wr.heap.size wr w') => (show Below wr.heap.size wr w' ∧ w'.cell? ⟨w.heap.size, 3, none⟩ = some (.slice (some a1) m c) ∧ w'.cell? ⟨w.heap.size + 1, 3, none⟩ = some (.slice (some a2) m c') ∧ w'.cell? (a1.add (i * 4)) = some (.int .i64 r1.k) ∧ w'.cell? ⟨(a1.add (i * 4)).block, (a1.add (i * 4)).off + 1, none⟩ = some (sv r1.s) ∧ w'.cell? ⟨(a1.add (i * 4)).block, (a1.add (i * 4)).off + 2, none⟩ = some (.int .i64 r1.n) ∧ w'.cell? ⟨(a1.add (i * 4)).block, (a1.add (i * 4)).off + 3, none⟩ = some (.slice E1 r1.l.length f1) ∧ w'.cell? (a2.add (i * 4)) = some (.int .i64 r2.k) ∧ w'.cell? ⟨(a2.add (i * 4)).block, (a2.add (i * 4)).off + 1, none⟩ = some (sv r2.s) ∧ w'.cell? ⟨(a2.add (i * 4)).block, (a2.add (i * 4)).off + 2, none⟩ = some (.int .i64 r2.n) ∧ w'.cell? ⟨(a2.add (i * 4)).block, (a2.add (i * 4)).off + 3, none⟩ = some (.slice E2 r2.l.length f2) from ⟨hb, (hb.cell (p := ⟨w.heap.size, 3, none⟩) hB1.lt).trans c3, (hb.cell (p := ⟨w.heap.size + 1, 3, none⟩) hB2.lt).trans d3, (hb.cell (by rw [block_of_add]; omega)).trans p0, (hb.cell (by simp only [block_of_add]; omega)).trans p1, (hb.cell (by simp only [block_of_add]; omega)).trans p2, (hb.cell (by simp only [block_of_add]; omega)).trans p3, (hb.cell (by rw [block_of_add]; omega)).trans q0, (hb.cell (by simp only [block_of_add]; omega)).trans q1, (hb.cell (by simp only [block_of_add]; omega)).trans q2, (hb.cell (by simp only [block_of_add]; omega)).trans q3⟩))
            have hS0 : Below wr.heap.size wr wr := Below.refl _ _
            have hlt' : (i : Int) < (m : Int) := by omega
            go_wp2_with fail
            go_region_held3 (fun w' => Below wr.heap.size wr w' ∧ w'.cell? ⟨w.heap.size, 3, none⟩ = some (.slice (some a1) m c) ∧ w'.cell? ⟨w.heap.size + 1, 3, none⟩ = some (.slice (some a2) m c') ∧ w'.cell? (a1.add (i * 4)) = some (.int .i64 r1.k) ∧ w'.cell? ⟨(a1.add (i * 4)).block, (a1.add (i * 4)).off + 1, none⟩ = some (sv r1.s) ∧ w'.cell? ⟨(a1.add (i * 4)).block, (a1.add (i * 4)).off + 2, none⟩ = some (.int .i64 r1.n) ∧ w'.cell? ⟨(a1.add (i * 4)).block, (a1.add (i * 4)).off + 3, none⟩ = some (.slice E1 r1.l.length f1) ∧ w'.cell? (a2.add (i * 4)) = some (.int .i64 r2.k) ∧ w'.cell? ⟨(a2.add (i * 4)).block, (a2.add (i * 4)).off + 1, none⟩ = some (sv r2.s) ∧ w'.cell? ⟨(a2.add (i * 4)).block, (a2.add (i * 4)).off + 2, none⟩ = some (.int .i64 r2.n) ∧ w'.cell? ⟨(a2.add (i * 4)).block, (a2.add (i * 4)).off + 3, none⟩ = some (.slice E2 r2.l.length f2)) (first | exact HK.out _ hS0 | exact HK.out _ hS0.drew)
              (first
                | (go_at_call 21; refine (HC.out _ (by first | exact hS0 | exact hS0.drew)).mono ?_; rintro e w3 ⟨rfl, hb3⟩; have hS0 := below_trans hS0.drew hb3))
            have hb4 := hbel.trans (hS0.mono hbs)
            have hX1 := hB1.below hS0 hB1.lt
            have hX2 := hB2.below hS0 hB2.lt
            go_wp2_with fail
            go_roundw
            case rel =>
              first
                | exact ⟨i + 1, by omega, by go_num, hX1, hX2, hb4⟩
                | ((repeat apply Exists.intro); exact ⟨⟨i + 1, by omega, by go_num, hX1, hX2, hb4⟩, rfl⟩)
            case measure => simp [intOf]; omega
          · go_wp2_with fail
            go_ret
            exact ⟨rfl, hbel⟩
    · have hk3 : ¬ k = 3 := by intro e; rw [e] at ht; exact absurd ht (by decide)
      have hd3 : decide (k = 3) = false := by simpa using hk3
      have hp : prt k = false := by
        unfold txt at ht; unfold prt
        have := of_decide_eq_true ht
        exact decide_eq_false (by omega)
      rw [if_pos ht, if_pos ht] at hss
      subst hss
      have hsh := fun w => shows_is w ht hd3 hp
      clear hk3 ht hp hd3
      go_enter Try.func21, Try.ntmps21
      go_wp2_with fail
      refine (hsh _).mono ?_
      rintro e w1 ⟨rfl, rfl⟩
      go_wp2_with fail
      go_ret
      exact ⟨rfl, HB1.out⟩
set_option maxRecDepth 100000 in
set_option maxHeartbeats 4000000 in
theorem same_true {a b : Rep} {w : World} {cs cs' : List Value} (ha : Liv w a cs) (hb : Liv w b cs') (h : a.norm = b.norm) :
    Calls Try.prog 8 #[.agg cs.toArray, .agg cs'.toArray] w fun e w' => e = .returned (.bool true) ∧ Below w.heap.size w w' := by
  obtain ⟨A, c, xs, rfl, hk1, hn1, hs1, hlc1, hcm1, hd1, hl1⟩ := ha.fields
  obtain ⟨A', c', xs', rfl, hk2, hn2, hs2, hlc2, hcm2, hd2, hl2⟩ := hb.fields
  have hb1 : Below w.heap.size w ((w.alloc (.cells #[.int .i64 a.k, sv a.s, .int .i64 a.n, .slice A a.l.length c] 25)).alloc (.cells #[.int .i64 b.k, sv b.s, .int .i64 b.n, .slice A' b.l.length c'] 25)) := ((Below.refl _ _).alloc (Nat.le_refl _) _).alloc (by simp) _
  have HB1 := Lib.hid hb1
  have HC := Lib.hid (order_same (SizeOf.sizeOf a) a b _ _ _ (Nat.le_refl _) (ha.below hb1) (hb.below hb1) h)
  clear hb1 ha hb h hk1 hn1 hs1 hlc1 hcm1 hd1 hl1 hk2 hn2 hs2 hlc2 hcm2 hd2 hl2
  go_enter Try.func8, Try.ntmps8
  go_wp2_with fail
  refine HC.out.mono ?_
  rintro e w1 ⟨rfl, hb2⟩
  go_wp2_with fail
  go_ret
  exact ⟨rfl, HB1.out.trans (hb2.mono HB1.out.size)⟩
end Go.Proofs.Ytjefpnhffdeekaa
