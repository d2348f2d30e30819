/- The walks of the laws FaultDepths, FaultTells. -/
import Derived.Test.YtnmchplabaoflaaDoorFltK
namespace Go.Proofs.YtnmchplabaoflaaDoor
open Go.RowKit Go.Shelf
set_option linter.unusedVariables false

set_option maxRecDepth 100000 in
set_option maxHeartbeats 4000000 in
theorem faultDepths_ok (v u : Value) (la lb : List (List UInt8)) (w : World) (hv : Arg1 w v la) (hu : Arg1 w u lb) (hg : Et w) (hm : My w) :
    Calls Tryd.prog 4 #[.int .i64 0, v, u] w fun e w' => e = .returned (.bool true) ∧ Below w.heap.size w w' := by
  have HG := Lib.hid hg
  have HM := Lib.hid hm
  obtain ⟨A, cp, rfl, hR, hlm, hlen⟩ := hu
  obtain ⟨n, hn⟩ : ∃ n, lb.length = n := ⟨_, rfl⟩
  have HN := Lib.hid hn
  have HR := Lib.hid hR
  have HL := Lib.hid hlen
  rw [hn] at hlm ⊢
  unfold maxLen at hlm
  clear hg hm hn hR hlen
  go_enter Tryd.func4, Tryd.ntmps4
  go_wp2_with fail
  refine (chain_ok v la _ hv).mono ?_
  rintro e w1 ⟨rfl, hb1⟩
  have HB1 := Lib.hid hb1; clear hb1
  go_wp2_with fail
  go_loopw [8, 9, 10] (fun x y z wr => ∃ k, x = .nilIface ∧ y = .int .i64 (k : Nat) ∧ z = .int .i64 (k : Nat) ∧ k ≤ n ∧ k ≤ 10 ∧ Below w.heap.size w wr) (fun x y z _ => n - (intOf z).toNat)
  case atStart => exact ⟨0, rfl, rfl, rfl, by omega, by omega, HB1.out⟩
  case round =>
    obtain ⟨k, rfl, rfl, rfl, hkn, hk10, hb⟩ := hrel
    have HB := Lib.hid hb
    clear hb
    by_cases hlt : k < n ∧ k < 10
    · obtain ⟨h1, h2⟩ := hlt
      have hkl : k < lb.length := by rw [HN.out]; exact h1
      have i1 : (k : Int) < (n : Int) := by omega
      have i2 : (k : Int) < 10 := by omega
      obtain ⟨ad, u, rfl, hblk, hget, hcell⟩ := HR.out.at_ (k := k) hkl
      have hu : u = sv lb[k] := by
        rw [List.getElem?_map, List.getElem?_eq_getElem hkl] at hget
        exact (Option.some.inj hget).symm
      subst hu
      have hcell2 := (HB.out.cell (p := ad.add k) (by rw [block_of_add]; exact hblk)).trans hcell
      have HCUT := Lib.hid (fun w1 => cut_sv lb[k] 9 w1 (HL.out _ (List.getElem_mem hkl)) (by decide))
      obtain ⟨s0, hs0⟩ : ∃ s0, lb[k] = s0 := ⟨_, rfl⟩
      rw [hs0] at HCUT hcell2
      clear hget hcell hs0
      go_wp2_with (first
        | (go_at_call 10; refine (HCUT.out _).mono ?_; rintro e w1 ⟨rfl, rfl⟩)
        | (go_at_call 16; refine (wrap_nil _ _).mono ?_; rintro e w2 ⟨rfl, hb2⟩; have HB2 := Lib.hid hb2; clear hb2))
      go_roundw
      case rel => exact ⟨k + 1, by first | rfl | trivial, by go_num, by go_num, by omega, by omega, below_trans HB.out HB2.out⟩
      case measure => simp [intOf]; omega
    · rcases (show ¬ (k : Int) < (n : Int) ∨ ((k : Int) < (n : Int) ∧ ¬ (k : Int) < 10) by omega) with h1 | ⟨h1, h2⟩
      all_goals
        go_wp2_with fail
        refine (depth_nil _).mono ?_
        rintro e w2 ⟨rfl, hb2⟩
        have HB2 := Lib.hid (below_trans HB.out hb2); clear hb2
        go_wp2_with fail
        refine (known_any _ (HG.out.below_ HB2.out) (HM.out.below_ HB2.out)).mono ?_
        rintro e w3 ⟨rfl, hb3⟩
        have HB3 := Lib.hid (below_trans HB2.out hb3); clear hb3
        go_wp2_with fail
        go_ret
        exact ⟨rfl, HB3.out⟩

set_option maxRecDepth 100000 in
set_option maxHeartbeats 4000000 in
theorem faultDepths_pos (c : Int) (v u : Value) (la lb : List (List UInt8)) (w : World) (hv : Arg1 w v la) (hu : Arg1 w u lb) (hc : c ≠ 0) (hg : Et w) (hm : My w) :
    Calls Tryd.prog 4 #[.int .i64 c, v, u] w fun e w' => e = .returned (.bool true) ∧ Below w.heap.size w w' := by
  have HG := Lib.hid hg
  have HM := Lib.hid hm
  have hc0 : (c == 0) = false := by simpa using hc
  have HWR := Lib.hid (fun s l w1 h1 h2 => wrap_any (code_chain c) hc ⟨_, _, rfl⟩ s l w1 h1 h2)
  obtain ⟨A, cp, rfl, hR, hlm, hlen⟩ := hu
  obtain ⟨n, hn⟩ : ∃ n, lb.length = n := ⟨_, rfl⟩
  have HN := Lib.hid hn
  have HR := Lib.hid hR
  have HL := Lib.hid hlen
  rw [hn] at hlm ⊢
  unfold maxLen at hlm
  clear hn hR hlen
  go_enter Tryd.func4, Tryd.ntmps4
  go_wp2_with fail
  refine (chain_pos c v la _ hv hg hc).mono ?_
  rintro e w1 ⟨g, s, r, rfl, hch, hnm, hrl, hb1⟩
  obtain ⟨N, hN⟩ : ∃ N, r.length = N := ⟨_, rfl⟩
  have hN10 : N ≤ 10 := by rw [← hN, hrl]; omega
  have HB1 := Lib.hid hb1
  have HC := Lib.hid hch
  have HLN := Lib.hid hN
  clear hg hm hb1 hch hnm hrl hN hc
  go_wp2_with fail
  go_loopw [8, 9, 10] (fun x y z wr => ∃ g2 s2 r2 k, x = .iface 42 (.pointer (some ⟨g2, 0, none⟩)) ∧ y = .int .i64 (k : Nat) ∧ z = .int .i64 (k : Nat) ∧ k ≤ n ∧ k ≤ 10 ∧ Chn wr (cd c) ((g2, s2) :: r2) ∧ r2.length = N + k ∧ Below w1.heap.size w1 wr) (fun x y z _ => n - (intOf z).toNat)
  case atStart => exact ⟨g, s, r, 0, rfl, rfl, rfl, by omega, by omega, HC.out, HLN.out, Below.refl _ _⟩
  case round =>
    obtain ⟨g2, s2, r2, k, rfl, rfl, rfl, hkn, hk10, hch, hrl, hb⟩ := hrel
    have HB0 := Lib.hid hb
    have HB := Lib.hid (below_trans HB1.out hb)
    have HC2 := Lib.hid hch
    have HL2 := Lib.hid hrl
    clear hb hch hrl
    by_cases hlt : k < n ∧ k < 10
    · obtain ⟨h1, h2⟩ := hlt
      have hkl : k < lb.length := by rw [HN.out]; exact h1
      have i1 : (k : Int) < (n : Int) := by omega
      have i2 : (k : Int) < 10 := by omega
      obtain ⟨ad, u, rfl, hblk, hget, hcell⟩ := HR.out.at_ (k := k) hkl
      have hu : u = sv lb[k] := by
        rw [List.getElem?_map, List.getElem?_eq_getElem hkl] at hget
        exact (Option.some.inj hget).symm
      subst hu
      have hcell2 := (HB.out.cell (p := ad.add k) (by rw [block_of_add]; exact hblk)).trans hcell
      have HCUT := Lib.hid (fun w1 => cut_sv lb[k] 9 w1 (HL.out _ (List.getElem_mem hkl)) (by decide))
      have HW1 := Lib.hid (HWR.out (lb[k].take 9) ((g2, s2) :: r2) wr HC2.out (HG.out.below_ HB.out))
      obtain ⟨s0, hs0⟩ : ∃ s0, lb[k] = s0 := ⟨_, rfl⟩
      rw [hs0] at HCUT hcell2 HW1
      clear hget hcell hs0
      go_wp2_with (first
        | (go_at_call 10; refine (HCUT.out _).mono ?_; rintro e w1 ⟨rfl, rfl⟩)
        | (go_at_call 16; refine HW1.out.mono ?_; rintro e w2 ⟨g3, rfl, hch3, hb2⟩; have HC3 := Lib.hid hch3; have HB2 := Lib.hid hb2; clear hch3 hb2))
      go_roundw
      case rel => exact ⟨g3, s0.take 9, (g2, s2) :: r2, k + 1, rfl, by go_num, by go_num, by omega, by omega, HC3.out, by rw [List.length_cons, HL2.out]; omega, below_trans HB0.out HB2.out⟩
      case measure => simp [intOf]; omega
    · have hD1 := fun w1 h1 h2 => depth_any c ((g2, s2) :: r2) w1 h1 h2 (by simp only [List.length_cons]; rw [HL2.out]; omega)
      have hD2 := fun w1 h1 h2 => depth_any c ((g, s) :: r) w1 h1 h2 (by simp only [List.length_cons]; rw [HLN.out]; omega)
      rw [List.length_cons, HL2.out] at hD1
      rw [List.length_cons, HLN.out] at hD2
      have HD1 := Lib.hid hD1
      have HD2 := Lib.hid hD2
      have heq : (((N + k + 1 : Nat) : Int) == ((N + 1 : Nat) : Int) + (k : Int)) = true := by rw [beq_iff_eq]; omega
      clear hD1 hD2
      rcases (show ¬ (k : Int) < (n : Int) ∨ ((k : Int) < (n : Int) ∧ ¬ (k : Int) < 10) by omega) with h1 | ⟨h1, h2⟩
      all_goals
        go_wp2_with fail
        refine (HD1.out _ HC2.out (HG.out.below_ HB.out)).mono ?_
        rintro e w2 ⟨rfl, hb2⟩
        have HC2' := Lib.hid (HC2.out.below hb2)
        have HB2 := Lib.hid (below_trans HB.out hb2); have HE2 := Lib.hid (below_trans HB0.out hb2); clear hb2
        go_wp2_with fail
        refine (HD2.out _ (HC.out.below HE2.out) (HG.out.below_ HB2.out)).mono ?_
        rintro e w3 ⟨rfl, hb3⟩
        have HC3' := Lib.hid (HC2'.out.below hb3)
        have HB3 := Lib.hid (below_trans HB2.out hb3); clear hb3
        go_wp2_with fail
        refine (code_chain c ((g2, s2) :: r2) _ HC3'.out (HG.out.below_ HB3.out)).mono ?_
        rintro e w4 ⟨rfl, hb4⟩
        have HB4 := Lib.hid (below_trans HB3.out hb4); clear hb4
        go_wp2_with fail
        refine (known_any _ (HG.out.below_ HB4.out) (HM.out.below_ HB4.out)).mono ?_
        rintro e w5 ⟨rfl, hb5⟩
        have HB5 := Lib.hid (below_trans HB4.out hb5); clear hb5
        go_wp2_with fail
        go_ret
        exact ⟨rfl, HB5.out⟩
end Go.Proofs.YtnmchplabaoflaaDoor
