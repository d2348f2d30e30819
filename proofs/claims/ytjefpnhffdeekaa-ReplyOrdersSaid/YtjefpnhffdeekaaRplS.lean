/- The walks of reply's Bulk, OK, Failed, Depth of a leaf; of known (tallboylaw17). -/
import Derived.Test.YtjefpnhffdeekaaRplO
namespace Go.Proofs.Ytjefpnhffdeekaa
open Go.RowKit
set_option linter.unusedVariables false

set_option maxRecDepth 100000 in
theorem bulk_any (s : ByteArray) (w : World) : Calls Try.prog 22 #[.string s] w fun e w' => e = .returned (.agg #[.int .i64 4, .string s, .int .i64 0, .slice none 0 0]) ∧ Below w.heap.size w w' := by
  go_enter Try.func22, Try.ntmps22
  go_wp2
  refine bodyPost_ret (ret_cell1 rfl _ _ w.heap.size _ _ _ _ _ rfl (Blk.new w _ _)) rfl ?_
  exact ⟨rfl, (Below.refl _ _).alloc (Nat.le_refl _) _⟩
set_option maxRecDepth 100000 in
theorem ok_any (w : World) : Calls Try.prog 24 #[] w fun e w' => e = .returned (.agg #[.int .i64 1, .string ⟨#[79, 75]⟩, .int .i64 0, .slice none 0 0]) ∧ Below w.heap.size w w' := by
  go_enter Try.func24, Try.ntmps24
  go_wp2
  refine bodyPost_ret (ret_cell1 rfl _ _ w.heap.size _ _ _ _ _ rfl (Blk.new w _ _)) rfl ?_
  exact ⟨rfl, (Below.refl _ _).alloc (Nat.le_refl _) _⟩
set_option maxRecDepth 100000 in
theorem depth_leaf (k : Int) (s : List UInt8) (n : Int) (w : World) (hp : prt k = false) : Calls Try.prog 23 #[.agg #[.int .i64 k, sv s, .int .i64 n, .slice none 0 0]] w fun e w' => e = .returned (.int .i64 1) ∧ Below w.heap.size w w' := by
  have HB := Lib.hid (fun w1 => bare_any k s n none 0 0 w1)
  unfold bareRet at HB
  rw [hp] at HB
  obtain ⟨S1, h1⟩ : ∃ S, (if txt k then s else []) = S := ⟨_, rfl⟩
  obtain ⟨N1, h3⟩ : ∃ S, (if k = 3 then n else 0) = S := ⟨_, rfl⟩
  rw [h1, h3] at HB
  clear h1 h3 hp
  go_enter Try.func23, Try.ntmps23
  go_wp2_with fail
  refine (HB.out _).mono ?_
  rintro e w1 ⟨rfl, hb⟩
  have HB1 := Lib.hid (((Below.refl w.heap.size w).alloc (Nat.le_refl _) (.cells #[.int .i64 k, sv s, .int .i64 n, .slice none 0 0] 25)).trans (hb.mono (by simp)))
  clear hb
  go_wp2_with fail
  refine wp_loop_rounds 1 ?_
  rw [rounds_succ]
  go_wp2_with fail
  go_ret
  exact ⟨rfl, HB1.out.alloc HB1.out.size _⟩

def bk (s : List UInt8) : Rep := .mk 4 s 0 []
def ab : Rep := .mk 9 [] 0 [bk [97], bk [98]]
def ba : Rep := .mk 9 [] 0 [bk [98], bk [97]]
theorem ab_alike : (ord (psrt ab) (psrt ba) == 0) = true := by decide +kernel
theorem ab_same : (ord ab ba == 0) = false := by decide +kernel
theorem null_same : (ord (.mk 5 [] 0 []) (.mk 6 [] 0 []) == 0) = false := by decide +kernel
theorem ok_two (s t : List UInt8) : okS (.mk 9 [] 0 [bk s, bk t]) := by simp [okS, okSs, bk]
/-- A SetReply of two bulks, where it lies. -/
theorem two_live {w : World} {g : Nat} {s t : List UInt8} (h : Blk w g 25 #[.int .i64 4, sv s, .int .i64 0, .slice none 0 0, .int .i64 4, sv t, .int .i64 0, .slice none 0 0]) (hs : s.length ≤ maxLen) (ht : t.length ≤ maxLen) :
    Liv w (.mk 9 [] 0 [bk s, bk t]) [.int .i64 9, .string ⟨#[]⟩, .int .i64 0, .slice (some ⟨g, 0, none⟩) 2 2] := by
  refine RV.mk_ (k := 9) (s := []) (n := 0) (l := [bk s, bk t]) (A := some ⟨g, 0, none⟩) (c := 2) (xs := [.int .i64 4, sv s, .int .i64 0, .slice none 0 0, .int .i64 4, sv t, .int .i64 0, .slice none 0 0]) (by unfold fits; omega) (by unfold fits; omega) (by unfold maxLen; simp) (Nat.le_refl _) (by unfold maxLen; omega) ⟨rfl, fun _ => ⟨_, rfl, rfl, h.lt, fun j u hu => ?_⟩⟩ ?_
  · rw [spot_add rfl, Nat.zero_add, h.cell j]
    simpa using hu
  · unfold RLs
    refine ⟨[.int .i64 4, sv s, .int .i64 0, .slice none 0 0], [.int .i64 4, sv t, .int .i64 0, .slice none 0 0], rfl, RV.flat_ (by unfold fits; omega) (by unfold fits; omega) hs, RLs.one (RV.flat_ (by unfold fits; omega) (by unfold fits; omega) ht)⟩

set_option maxRecDepth 100000 in
set_option maxHeartbeats 4000000 in
theorem known17_any (w : World) : Calls Try.prog 9 #[] w fun e w' => e = .returned (.bool true) ∧ Below w.heap.size w w' := by
  go_enter Try.func9, Try.ntmps9
  go_wp2_with fail
  refine (bulk_any _ _).mono ?_
  rintro e w1 ⟨rfl, hb1⟩
  go_wp2_with fail
  refine (bulk_any _ _).mono ?_
  rintro e w2 ⟨rfl, hb2⟩
  have HB2 := Lib.hid (below_trans hb1 hb2); clear hb1 hb2
  go_wp2_with fail
  have hA := (Blk.new w2 25 #[.int .i64 4, .string ⟨#[97]⟩, .int .i64 0, .slice none 0 0, .int .i64 4, .string ⟨#[98]⟩, .int .i64 0, .slice none 0 0])
  have hA2 := hA.alloc (.cells #[.int .i64 9, .string ⟨#[]⟩, .int .i64 0, .slice (some ⟨w2.heap.size, 0, none⟩) 2 2] 25)
  have hR := (Blk.new (w2.alloc (.cells #[.int .i64 4, .string ⟨#[97]⟩, .int .i64 0, .slice none 0 0, .int .i64 4, .string ⟨#[98]⟩, .int .i64 0, .slice none 0 0] 25)) 25 #[.int .i64 9, .string ⟨#[]⟩, .int .i64 0, .slice (some ⟨w2.heap.size, 0, none⟩) 2 2])
  rw [show (w2.alloc (.cells #[.int .i64 4, .string ⟨#[97]⟩, .int .i64 0, .slice none 0 0, .int .i64 4, .string ⟨#[98]⟩, .int .i64 0, .slice none 0 0] 25)).heap.size = w2.heap.size + 1 by simp] at hR
  have HB3 := (HB2.out.alloc HB2.out.size (.cells #[.int .i64 4, .string ⟨#[97]⟩, .int .i64 0, .slice none 0 0, .int .i64 4, .string ⟨#[98]⟩, .int .i64 0, .slice none 0 0] 25)).alloc (by have := HB2.out.size; simp; omega) (.cells #[.int .i64 9, .string ⟨#[]⟩, .int .i64 0, .slice (some ⟨w2.heap.size, 0, none⟩) 2 2] 25)
  generalize ((w2.alloc (.cells #[.int .i64 4, .string ⟨#[97]⟩, .int .i64 0, .slice none 0 0, .int .i64 4, .string ⟨#[98]⟩, .int .i64 0, .slice none 0 0] 25)).alloc (.cells #[.int .i64 9, .string ⟨#[]⟩, .int .i64 0, .slice (some ⟨w2.heap.size, 0, none⟩) 2 2] 25)) = W1 at hA2 hR HB3 ⊢
  clear hA HB2
  generalize w2.heap.size = g at hA2 hR ⊢
  have HA := Lib.hid hA2; have HR := Lib.hid hR; have HB := Lib.hid HB3
  clear hA2 hR HB3
  refine (bulk_any _ _).mono ?_
  rintro e w3 ⟨rfl, hb3⟩
  go_wp2_with fail
  refine (bulk_any _ _).mono ?_
  rintro e w4 ⟨rfl, hb4⟩
  have HB4 := Lib.hid (below_trans hb3 hb4); clear hb3 hb4
  have hr0 : ((w4.alloc (.cells #[.int .i64 4, .string ⟨#[98]⟩, .int .i64 0, .slice none 0 0, .int .i64 4, .string ⟨#[97]⟩, .int .i64 0, .slice none 0 0] 25)).alloc (.cells #[.int .i64 9, .string ⟨#[]⟩, .int .i64 0, .slice (some ⟨w4.heap.size, 0, none⟩) 2 2] 25)).cell? ⟨g + 1, 0, none⟩ = some (.int .i64 9) := (((HR.out.below HB4.out HR.out.lt).alloc _).alloc _).cell 0
  have hr1 : ((w4.alloc (.cells #[.int .i64 4, .string ⟨#[98]⟩, .int .i64 0, .slice none 0 0, .int .i64 4, .string ⟨#[97]⟩, .int .i64 0, .slice none 0 0] 25)).alloc (.cells #[.int .i64 9, .string ⟨#[]⟩, .int .i64 0, .slice (some ⟨w4.heap.size, 0, none⟩) 2 2] 25)).cell? ⟨g + 1, 1, none⟩ = some (.string ⟨#[]⟩) := (((HR.out.below HB4.out HR.out.lt).alloc _).alloc _).cell 1
  have hr2 : ((w4.alloc (.cells #[.int .i64 4, .string ⟨#[98]⟩, .int .i64 0, .slice none 0 0, .int .i64 4, .string ⟨#[97]⟩, .int .i64 0, .slice none 0 0] 25)).alloc (.cells #[.int .i64 9, .string ⟨#[]⟩, .int .i64 0, .slice (some ⟨w4.heap.size, 0, none⟩) 2 2] 25)).cell? ⟨g + 1, 2, none⟩ = some (.int .i64 0) := (((HR.out.below HB4.out HR.out.lt).alloc _).alloc _).cell 2
  have hr3 : ((w4.alloc (.cells #[.int .i64 4, .string ⟨#[98]⟩, .int .i64 0, .slice none 0 0, .int .i64 4, .string ⟨#[97]⟩, .int .i64 0, .slice none 0 0] 25)).alloc (.cells #[.int .i64 9, .string ⟨#[]⟩, .int .i64 0, .slice (some ⟨w4.heap.size, 0, none⟩) 2 2] 25)).cell? ⟨g + 1, 3, none⟩ = some (.slice (some ⟨g, 0, none⟩) 2 2) := (((HR.out.below HB4.out HR.out.lt).alloc _).alloc _).cell 3
  go_wp2_with fail
  clear hr0 hr1 hr2 hr3
  have hB := (Blk.new w4 25 #[.int .i64 4, .string ⟨#[98]⟩, .int .i64 0, .slice none 0 0, .int .i64 4, .string ⟨#[97]⟩, .int .i64 0, .slice none 0 0])
  have hB2 := hB.alloc (.cells #[.int .i64 9, .string ⟨#[]⟩, .int .i64 0, .slice (some ⟨w4.heap.size, 0, none⟩) 2 2] 25)
  have hA2 := ((HA.out.below HB4.out HA.out.lt).alloc (.cells #[.int .i64 4, .string ⟨#[98]⟩, .int .i64 0, .slice none 0 0, .int .i64 4, .string ⟨#[97]⟩, .int .i64 0, .slice none 0 0] 25)).alloc (.cells #[.int .i64 9, .string ⟨#[]⟩, .int .i64 0, .slice (some ⟨w4.heap.size, 0, none⟩) 2 2] 25)
  have hRA := ((HR.out.below HB4.out HR.out.lt).alloc (.cells #[.int .i64 4, .string ⟨#[98]⟩, .int .i64 0, .slice none 0 0, .int .i64 4, .string ⟨#[97]⟩, .int .i64 0, .slice none 0 0] 25)).alloc (.cells #[.int .i64 9, .string ⟨#[]⟩, .int .i64 0, .slice (some ⟨w4.heap.size, 0, none⟩) 2 2] 25)
  have hRB := (Blk.new (w4.alloc (.cells #[.int .i64 4, .string ⟨#[98]⟩, .int .i64 0, .slice none 0 0, .int .i64 4, .string ⟨#[97]⟩, .int .i64 0, .slice none 0 0] 25)) 25 #[.int .i64 9, .string ⟨#[]⟩, .int .i64 0, .slice (some ⟨w4.heap.size, 0, none⟩) 2 2])
  rw [show (w4.alloc (.cells #[.int .i64 4, .string ⟨#[98]⟩, .int .i64 0, .slice none 0 0, .int .i64 4, .string ⟨#[97]⟩, .int .i64 0, .slice none 0 0] 25)).heap.size = w4.heap.size + 1 by simp] at hRB
  have hs4 : w.heap.size ≤ w4.heap.size := by have := HB.out.size; have := HB4.out.size; omega
  have HB5 := ((HB.out.trans (HB4.out.mono HB.out.size)).alloc hs4 (.cells #[.int .i64 4, .string ⟨#[98]⟩, .int .i64 0, .slice none 0 0, .int .i64 4, .string ⟨#[97]⟩, .int .i64 0, .slice none 0 0] 25)).alloc (by simp; omega) (.cells #[.int .i64 9, .string ⟨#[]⟩, .int .i64 0, .slice (some ⟨w4.heap.size, 0, none⟩) 2 2] 25)
  generalize (w4.alloc (.cells #[.int .i64 4, .string ⟨#[98]⟩, .int .i64 0, .slice none 0 0, .int .i64 4, .string ⟨#[97]⟩, .int .i64 0, .slice none 0 0] 25)).alloc (.cells #[.int .i64 9, .string ⟨#[]⟩, .int .i64 0, .slice (some ⟨w4.heap.size, 0, none⟩) 2 2] 25) = W2 at hB2 hA2 hRA hRB HB5 ⊢
  clear hB HA HR HB HB4 hs4
  generalize w4.heap.size = h at hB2 hRB ⊢
  have HAL : Hid (∀ w5, Below W2.heap.size W2 w5 → Calls Try.prog 7 #[.agg #[.int .i64 9, .string ⟨#[]⟩, .int .i64 0, .slice (some ⟨g, 0, none⟩) 2 2], .agg #[.int .i64 9, .string ⟨#[]⟩, .int .i64 0, .slice (some ⟨h, 0, none⟩) 2 2]] w5 fun e w' => e = .returned (.bool true) ∧ Below w5.heap.size w5 w') := Lib.hid (fun w5 hb => (alike_any (w := w5) (a := ab) (b := ba) (two_live (s := [97]) (t := [98]) (hA2.below hb hA2.lt) (by decide) (by decide)) (two_live (s := [98]) (t := [97]) (hB2.below hb hB2.lt) (by decide) (by decide)) (ok_two _ _) (ok_two _ _)).mono (fun e w' h => ⟨h.1.trans (by rw [ab_alike]), h.2⟩))
  have HSA : Hid (∀ w5, Below W2.heap.size W2 w5 → Calls Try.prog 20 #[.agg #[.int .i64 9, .string ⟨#[]⟩, .int .i64 0, .slice (some ⟨g, 0, none⟩) 2 2], .agg #[.int .i64 9, .string ⟨#[]⟩, .int .i64 0, .slice (some ⟨h, 0, none⟩) 2 2]] w5 fun e w' => e = .returned (.bool false) ∧ Below w5.heap.size w5 w') := Lib.hid (fun w5 hb => (same_any (w := w5) (a := ab) (b := ba) (two_live (s := [97]) (t := [98]) (hA2.below hb hA2.lt) (by decide) (by decide)) (two_live (s := [98]) (t := [97]) (hB2.below hb hB2.lt) (by decide) (by decide))).mono (fun e w' h => ⟨h.1.trans (by rw [ab_same]), h.2⟩))
  have HNL : Hid (∀ w5, Calls Try.prog 20 #[.agg #[.int .i64 5, .string ⟨#[]⟩, .int .i64 0, .slice none 0 0], .agg #[.int .i64 6, .string ⟨#[]⟩, .int .i64 0, .slice none 0 0]] w5 fun e w' => e = .returned (.bool false) ∧ Below w5.heap.size w5 w') := Lib.hid (fun w5 => (same_any (w := w5) (a := .mk 5 [] 0 []) (b := .mk 6 [] 0 []) (RV.flat_ (s := []) (by unfold fits; omega) (by unfold fits; omega) (by decide)) (RV.flat_ (s := []) (by unfold fits; omega) (by unfold fits; omega) (by decide))).mono (fun e w' h => ⟨h.1.trans (by rw [null_same]), h.2⟩))
  have HDP : Hid (∀ w5, Calls Try.prog 23 #[.agg #[.int .i64 1, .string ⟨#[79, 75]⟩, .int .i64 0, .slice none 0 0]] w5 fun e w' => e = .returned (.int .i64 1) ∧ Below w5.heap.size w5 w') := Lib.hid (fun w5 => depth_leaf 1 [79, 75] 0 w5 rfl)
  have hfd : ∀ w : World, (Instr.field 25 (.agg #[.int .i64 1, .string ⟨#[79, 75]⟩, .int .i64 0, .slice none 0 0]) 1).run Try.prog w = .ok (.string ⟨#[79, 75]⟩) w := fun _ => by kernel_rfl
  refine (HAL.out _ (Below.refl _ _)).mono ?_
  rintro e w5 ⟨rfl, hb5⟩
  have fa0 : w5.cell? ⟨g + 1, 0, none⟩ = some (.int .i64 9) := (hRA.below hb5 hRA.lt).cell 0
  have fa1 : w5.cell? ⟨g + 1, 1, none⟩ = some (.string ⟨#[]⟩) := (hRA.below hb5 hRA.lt).cell 1
  have fa2 : w5.cell? ⟨g + 1, 2, none⟩ = some (.int .i64 0) := (hRA.below hb5 hRA.lt).cell 2
  have fa3 : w5.cell? ⟨g + 1, 3, none⟩ = some (.slice (some ⟨g, 0, none⟩) 2 2) := (hRA.below hb5 hRA.lt).cell 3
  have fb0 : w5.cell? ⟨h + 1, 0, none⟩ = some (.int .i64 9) := (hRB.below hb5 hRB.lt).cell 0
  have fb1 : w5.cell? ⟨h + 1, 1, none⟩ = some (.string ⟨#[]⟩) := (hRB.below hb5 hRB.lt).cell 1
  have fb2 : w5.cell? ⟨h + 1, 2, none⟩ = some (.int .i64 0) := (hRB.below hb5 hRB.lt).cell 2
  have fb3 : w5.cell? ⟨h + 1, 3, none⟩ = some (.slice (some ⟨h, 0, none⟩) 2 2) := (hRB.below hb5 hRB.lt).cell 3
  clear HAL
  go_wp2_with fail
  refine (HSA.out _ hb5).mono ?_
  rintro e w6 ⟨rfl, hb6⟩
  clear HSA
  have HB6 := Lib.hid (HB5.trans ((below_trans hb5 hb6).mono HB5.size)); clear HB5 hb5 hb6
  clear hA2 hRA hB2 hRB fa0 fa1 fa2 fa3 fb0 fb1 fb2 fb3
  go_wp2_with fail
  refine (HNL.out _).mono ?_
  rintro e w7 ⟨rfl, hb7⟩
  go_wp2_with fail
  refine (ok_any _).mono ?_
  rintro e w8 ⟨rfl, hb8⟩
  go_wp2_with fail
  refine (HDP.out _).mono ?_
  rintro e w9 ⟨rfl, hb9⟩
  go_wp2_with fail
  refine (ok_any _).mono ?_
  rintro e w10 ⟨rfl, hb10⟩
  have HB10 := Lib.hid (HB6.out.trans ((below_trans hb7 (below_trans hb8 (below_trans hb9 hb10))).mono HB6.out.size))
  clear hb7 hb8 hb9 hb10
  go_wp2_with fail
  go_ret
  exact ⟨rfl, HB10.out⟩
end Go.Proofs.Ytjefpnhffdeekaa
