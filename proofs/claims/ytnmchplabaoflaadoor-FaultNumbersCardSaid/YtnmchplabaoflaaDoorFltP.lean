/- The walk of the law FaultNumbers. -/
import Derived.Test.YtnmchplabaoflaaDoorFltO
import Derived.Test.YtnmchplabaoflaaDoorFltN
namespace Go.Proofs.YtnmchplabaoflaaDoor
open Go.RowKit
set_option linter.unusedVariables false

set_option maxRecDepth 100000 in
theorem wrap_zero (s : ByteArray) (w : World) (hg : Et w) : Calls Tryd.prog 16 #[.string s, cd 0] w fun e w' => e = .returned .nilIface ∧ Below w.heap.size w w' := by
  have HC := Lib.hid (code_chain 0 [] w trivial hg)
  clear hg
  dsimp only [cd, ev] at HC ⊢
  go_enter Tryd.func16, Tryd.ntmps16
  go_wp2_with fail
  refine HC.out.mono ?_
  rintro e w1 ⟨rfl, h1⟩
  have H1 := Lib.hid h1
  clear h1
  go_wp2
  go_ret
  exact ⟨rfl, H1.out⟩

/-- The names that the law asks. -/
def oddNames : List (List UInt8) := [[103, 101, 116], [], [105, 116, 39, 115], [255, 0], [97, 32, 98]]
theorem odd_len : ∀ s ∈ oddNames, s.length ≤ 1000 := by decide

set_option maxRecDepth 100000 in
set_option maxHeartbeats 4000000 in
theorem faultNumbers_walk (w : World) (hm : My w) (hg : Et w) :
    Calls Tryd.prog 5 #[] w fun e w' => e = .returned (.bool true) ∧ Below w.heap.size w w' := by
  have HG := Lib.hid hg
  have HM := Lib.hid hm
  clear hg hm
  go_enter Tryd.func5, Tryd.ntmps5
  go_wp2_with fail
  go_loopw [1] (fun x wr => ∃ z : Int, x = .int .i64 z ∧ -1 ≤ z ∧ z ≤ 30 ∧ Below w.heap.size w wr) (fun x _ => (30 - intOf x).toNat)
  case atStart => exact ⟨-1, rfl, by omega, by omega, Below.refl _ _⟩
  case round =>
    obtain ⟨z, rfl, hz1, hz2, hb⟩ := hrel
    have HB := Lib.hid hb
    clear hb
    by_cases hz : z < 30
    · have hblk := Blk.new wr 9 #[.string ⟨#[103, 101, 116]⟩, .string ⟨#[]⟩, .string ⟨#[105, 116, 39, 115]⟩, .string ⟨#[255, 0]⟩, .string ⟨#[97, 32, 98]⟩]
      have HK := Lib.hid hblk
      have HB1 := Lib.hid (HB.out.alloc HB.out.size (.cells #[.string ⟨#[103, 101, 116]⟩, .string ⟨#[]⟩, .string ⟨#[105, 116, 39, 115]⟩, .string ⟨#[255, 0]⟩, .string ⟨#[97, 32, 98]⟩] 9))
      obtain ⟨G, hG⟩ : ∃ G, wr.heap.size = G := ⟨_, rfl⟩
      have HGs := Lib.hid hG
      rw [hG] at HK
      clear hblk hG
      go_wp2_with fail
      rw [HGs.out]
      go_loopw [12] (fun x wl => ∃ k, x = .int .i64 (k : Nat) ∧ k ≤ 5 ∧ Blk wl G 9 #[.string ⟨#[103, 101, 116]⟩, .string ⟨#[]⟩, .string ⟨#[105, 116, 39, 115]⟩, .string ⟨#[255, 0]⟩, .string ⟨#[97, 32, 98]⟩] ∧ Below w.heap.size w wl) (fun x _ => 5 - (intOf x).toNat)
      case atStart => exact ⟨0, rfl, by omega, HK.out, HB1.out⟩
      case round =>
        obtain ⟨k, rfl, hk, hbk, hb⟩ := hrel
        have HB2 := Lib.hid hb
        have HK2 := Lib.hid hbk
        clear hb hbk
        by_cases hk5 : k < 5
        · obtain ⟨s, hs1, hs2⟩ : ∃ s : List UInt8, wr.cell? ⟨G, k, none⟩ = some (sv s) ∧ s.length ≤ 1000 := by
            refine ⟨oddNames[k]'(by simpa [oddNames] using hk5), ?_, odd_len _ (List.getElem_mem _)⟩
            rw [HK2.out.cell k]
            rcases (show k = 0 ∨ k = 1 ∨ k = 2 ∨ k = 3 ∨ k = 4 by omega) with rfl | rfl | rfl | rfl | rfl <;> rfl
          have i1 : (k : Int) < 5 := by omega
          have HT := Lib.hid (fun w1 h1 => text_any z s w1 hs2 h1)
          have HR := Lib.hid (fun w1 => reft_any z s w1 hs2)
          clear hs2
          go_wp2_with fail
          refine (HT.out _ (HM.out.below_ HB2.out)).mono ?_
          rintro e w2 ⟨rfl, hb2⟩
          have HK3 := Lib.hid (HK2.out.below hb2 HK2.out.lt)
          have HB3 := Lib.hid (below_trans HB2.out hb2); clear hb2
          go_wp2_with fail
          refine (HR.out _).mono ?_
          rintro e w3 ⟨rfl, rfl⟩
          go_wp2_with fail
          go_roundw
          case rel => exact ⟨k + 1, by go_num, by omega, HK3.out, HB3.out⟩
          case measure => simp [intOf]; omega
        · have i1 : ¬ (k : Int) < 5 := by omega
          by_cases hz0 : z = 0
          · subst hz0
            go_wp2_with fail
            refine (new_ok _ _).mono ?_
            rintro e w2 ⟨rfl, rfl⟩
            go_wp2_with fail
            go_roundw
            case rel => exact ⟨1, by first | rfl | trivial, by omega, by omega, HB2.out⟩
            case measure => simp [intOf]
          · have hzb : (z == 0) = false := by simpa using hz0
            have HNEW := Lib.hid (fun w1 => new_any [120] z w1 hz0)
            have hzz : (z != z) = false := by simp
            go_wp2_with fail
            refine (HNEW.out _).mono ?_
            rintro e w2 ⟨g2, rfl, hc2, hb2⟩
            have HC2 := Lib.hid hc2
            have HB3 := Lib.hid (below_trans HB2.out hb2); clear hb2 hc2
            dsimp only [ev]
            go_wp2_with fail
            refine (code_chain z [(g2, [120])] _ HC2.out (HG.out.below_ HB3.out)).mono ?_
            rintro e w3 ⟨rfl, hb3⟩
            have HC3 := Lib.hid (HC2.out.below hb3)
            have HB4 := Lib.hid (below_trans HB3.out hb3); clear hb3
            go_wp2_with fail
            refine (cmd_any g2 [120] [] _ HC3.out (HG.out.below_ HB4.out)).mono ?_
            rintro e w4 ⟨rfl, hb4⟩
            have HC4 := Lib.hid (HC3.out.below hb4)
            have HB5 := Lib.hid (below_trans HB4.out hb4); clear hb4
            go_wp2_with fail
            refine (depth_any z [(g2, [120])] _ HC4.out (HG.out.below_ HB5.out) (by simp)).mono ?_
            rintro e w5 ⟨rfl, hb5⟩
            have HB6 := Lib.hid (below_trans HB5.out hb5); clear hb5
            go_wp2_with fail
            go_roundw
            case rel => exact ⟨z + 1, by first | rfl | trivial | go_num, by omega, by omega, HB6.out⟩
            case measure => simp [intOf]; omega
    · have hz30 : z = 30 := by omega
      subst hz30
      go_wp2_with fail
      refine (enew_any _ _).mono ?_
      rintro e w1 ⟨rfl, hb1⟩
      obtain ⟨p, hp⟩ : ∃ p, (some ⟨wr.heap.size, 0, none⟩ : Option Addr) = p := ⟨_, rfl⟩
      rw [hp]
      have HB1 := Lib.hid (below_trans HB.out hb1); clear hb1 hp
      dsimp only [ot]
      go_wp2_with fail
      refine (code_ot p [] _ trivial (HG.out.below_ HB1.out)).mono ?_
      rintro e w2 ⟨rfl, hb2⟩
      have HB2 := Lib.hid (below_trans HB1.out hb2); clear hb2
      go_wp2_with fail
      refine (cmd_ot p _ (HG.out.below_ HB2.out)).mono ?_
      rintro e w3 ⟨rfl, hb3⟩
      have HB3 := Lib.hid (below_trans HB2.out hb3); clear hb3
      go_wp2_with fail
      refine (depth_gen (ot p) (noF_ot p) ⟨_, _, rfl⟩ (as_fault_ot' p) [] _ trivial (HG.out.below_ HB3.out) (by decide)).mono ?_
      rintro e w4 ⟨rfl, hb4⟩
      have HB4 := Lib.hid (below_trans HB3.out hb4); clear hb4
      go_wp2_with fail
      refine (depth_nil _).mono ?_
      rintro e w5 ⟨rfl, hb5⟩
      have HB5 := Lib.hid (below_trans HB4.out hb5); clear hb5
      go_wp2_with fail
      refine (cmd_nil _).mono ?_
      rintro e w6 ⟨rfl, hb6⟩
      have HB6 := Lib.hid (below_trans HB5.out hb6); clear hb6
      go_wp2_with fail
      refine (wrap_zero _ _ (HG.out.below_ HB6.out)).mono ?_
      rintro e w7 ⟨rfl, hb7⟩
      have HB7 := Lib.hid (below_trans HB6.out hb7); clear hb7
      go_wp2_with fail
      refine (wrap_any (code_ot p) (by decide) ⟨_, _, rfl⟩ [97] [] _ trivial (HG.out.below_ HB7.out)).mono ?_
      rintro e w8 ⟨g8, rfl, hc8, hb8⟩
      have HC8 := Lib.hid hc8
      have HB8 := Lib.hid (below_trans HB7.out hb8); clear hb8 hc8
      dsimp only [ev]
      go_wp2_with fail
      refine (code_ot p [(g8, [97])] _ HC8.out (HG.out.below_ HB8.out)).mono ?_
      rintro e w9 ⟨rfl, hb9⟩
      have HB9 := Lib.hid (below_trans HB8.out hb9); clear hb9
      go_wp2_with fail
      refine (wrap_any (code_ot p) (by decide) ⟨_, _, rfl⟩ [98] [] _ trivial (HG.out.below_ HB9.out)).mono ?_
      rintro e w10 ⟨g10, rfl, hc10, hb10⟩
      have HC10 := Lib.hid hc10
      have HB10 := Lib.hid (below_trans HB9.out hb10); clear hb10 hc10
      dsimp only [ev]
      go_wp2_with fail
      refine (wrap_any (code_ot p) (by decide) ⟨_, _, rfl⟩ [97] [(g10, [98])] _ HC10.out (HG.out.below_ HB10.out)).mono ?_
      rintro e w11 ⟨g11, rfl, hc11, hb11⟩
      have HC11 := Lib.hid hc11
      have HB11 := Lib.hid (below_trans HB10.out hb11); clear hb11 hc11
      dsimp only [ev]
      go_wp2_with fail
      refine (depth_gen (ot p) (noF_ot p) ⟨_, _, rfl⟩ (as_fault_ot' p) [(g11, [97]), (g10, [98])] _ HC11.out (HG.out.below_ HB11.out) (by simp)).mono ?_
      rintro e w12 ⟨rfl, hb12⟩
      have HB12 := Lib.hid (below_trans HB11.out hb12); clear hb12
      go_wp2_with fail
      refine (known_any _ (HG.out.below_ HB12.out) (HM.out.below_ HB12.out)).mono ?_
      rintro e w13 ⟨rfl, hb13⟩
      have HB13 := Lib.hid (below_trans HB12.out hb13); clear hb13
      go_wp2_with fail
      go_ret
      exact ⟨rfl, HB13.out⟩
end Go.Proofs.YtnmchplabaoflaaDoor
