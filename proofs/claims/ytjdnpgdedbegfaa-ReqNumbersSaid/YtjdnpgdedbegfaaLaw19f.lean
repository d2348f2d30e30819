/- The walk of the law ReqNumbers. -/
import Derived.Test.YtjdnpgdedbegfaaRefF
import Derived.Test.YtjdnpgdedbegfaaLit
import Derived.Laws.MakeOwn
namespace Go.Proofs.Ytjdnpgdedbegfaa
open Go.RowKit Go.Shelf
set_option linter.unusedVariables false

theorem run_make_rowN {P : Program} (t e : TypeId) (i : TypeInfo) (z : Value) (ht : P.underlying t = some (.slice e)) (hi : P.info? e = some i) (hz : i.zero = some z)
    (kl kc : IntKind) (n c : Nat) (hnc : n ≤ c) (hbytes : i.bytes * c ≤ 281474976710656) (h63 : c ≤ 9223372036854775807) (w : World) :
    (Instr.makeSlice t (.int kl (n : Int)) (.int kc (c : Int))).run P w = .ok (.slice (some ⟨w.heap.size, 0, none⟩) n c) (w.alloc (.cells (madeCells z.cells (c * i.size)) e)) := by
  have hb : (i.bytes : Int) * (c : Int) ≤ 281474976710656 := by
    have h : ((i.bytes * c : Nat) : Int) ≤ 281474976710656 := by omega
    rwa [Int.natCast_mul] at h
  have hr := run_make (P := P) w t e i z ht hi hz kl kc n c (by omega) (by omega) hb (by omega)
  simp only [Int.toNat_natCast] at hr
  exact hr
/-- A row of zero bytes that is made: what it is. -/
theorem made_bytes (n : Nat) (hn : n ≤ 1048576) : ∃ (C : Array Value) (Z : List UInt8), Z.length = n ∧ (∀ w : World, (Instr.makeSlice 30 (.int .i64 (n : Int)) (.int .i64 (n : Int))).run Try.prog w = .ok (.slice (some ⟨w.heap.size, 0, none⟩) n n) (w.alloc (.cells C 5))) ∧
    ∀ (w : World) (B : Nat), B ≤ w.heap.size → OB (w.alloc (.cells C 5)) B 5 (.slice (some ⟨w.heap.size, 0, none⟩) n n) Z := by
  obtain ⟨i0, hi, hz0, hz1, hz2⟩ := info_parts u8info
  refine ⟨madeCells (Value.int .u8 0).cells (n * i0.size), List.replicate n 0, by simp, fun w => run_make_rowN _ _ i0 _ Try.underlying30 hi hz0 _ _ n n (Nat.le_refl _) (by rw [hz2]; omega) (by omega) w, fun w B hB => ?_⟩
  have hl : (madeCells (Value.int .u8 0).cells (n * i0.size)).toList = bv (List.replicate n 0) := by
    rw [hz1, Nat.mul_one]
    show (madeCells #[Value.int .u8 0] n).toList = _
    rw [toList_madeCells_one]
    simp [bv]
  have hsz : (madeCells (Value.int .u8 0).cells (n * i0.size)).size = n * 1 := by
    rw [← Array.length_toList, hl, bv_length, List.length_replicate, Nat.mul_one]
  have h := Own.lit (e := 5) w (madeCells (Value.int .u8 0).cells (n * i0.size)) n hB (by unfold maxLen; omega) hsz
  exact OB.mk h hl

theorem law_next' {s : ByteArray} (l : List UInt8) (w : World) (hs : s = bs l) (hl : l.length ≤ 1048576) (hm : Mx w) :
    Calls Try.prog 16 #[.string s] w fun e w' => e = .returned (.bool true) ∧ Below w.heap.size w w' := by subst hs; exact law_next l w hl hm

set_option maxRecDepth 100000 in
set_option maxHeartbeats 16000000 in
theorem reqNumbers_walk (w : World) (hm : Mx w) :
    Calls Try.prog 5 #[] w fun e w' => e = .returned (.bool true) ∧ Below w.heap.size w w' := by
  obtain ⟨C, Z, hZ, hmk, hobz⟩ := made_bytes 4096 (by omega)
  have Hmk := Lib.hid hmk
  have Hob := Lib.hid hobz
  have HZ := Lib.hid hZ
  have HM := Lib.hid hm
  clear hmk hobz hZ hm
  go_enter Try.func5, Try.ntmps5
  go_wp2_with fail
  go_loopw [9] (fun i wr => ∃ k : Nat, k ≤ 30 ∧ i = .int .i64 k ∧ Hid (∀ j, j < 30 → ∃ s : ByteArray, s.size ≤ 100 ∧ wr.cell? ⟨w.heap.size, j, none⟩ = some (.string s)) ∧ w.heap.size < wr.heap.size ∧ Below w.heap.size w wr)
    (fun i _ => 30 - (intOf i).toNat)
  case atStart =>
    refine ⟨0, by omega, rfl, Lib.hid ?_, by simp, (Below.refl _ _).alloc (Nat.le_refl _) _⟩
    exact strs_lit (by decide +kernel) _ _
  case round =>
    obtain ⟨k, hk, rfl, hc, hlt, hbel⟩ := hrel
    by_cases hlt2 : k < 30
    · obtain ⟨s, hs, hcell⟩ := hc.out k hlt2
      obtain ⟨l, hl⟩ : ∃ l, s = bs l := ⟨s.data.toList, (bs_eta s).symm⟩
      subst hl
      obtain ⟨m, hml⟩ : ∃ m, l.length = m := ⟨_, rfl⟩
      have HML := Lib.hid hml
      rw [bs_size, hml] at hs
      clear hml
      have i1 : (0 : Int) ≤ (k : Int) := by omega
      have i2 : (k : Int) < 30 := by omega
      go_wp2_with fail
      obtain ⟨wo, rfl⟩ : ∃ wo : World, wo = wr := ⟨_, rfl⟩
      go_loopw [3] (fun i wr => ∃ j : Nat, j ≤ m + 1 ∧ i = .int .i64 j ∧ Below wo.heap.size wo wr) (fun i _ => m + 1 - (intOf i).toNat)
      case atStart => exact ⟨0, by omega, rfl, Below.refl _ _⟩
      case round =>
        obtain ⟨j, hj, rfl, hb⟩ := hrel
        have hbw := below_trans hbel hb
        have hbz : (bs l).size = m := by rw [bs_size]; exact HML.out
        have hlm := HML.out
        by_cases hjm : j ≤ m
        · have j1 : (j : Int) ≤ (m : Int) := by omega
          have j2 : (0 : Int) ≤ (j : Int) := by omega
          have hex : (bs l).extract 0 j = bs (l.take j) := ex_take l j
          obtain ⟨T, hT⟩ : ∃ T, l.take j = T := ⟨_, rfl⟩
          have hTl : T.length ≤ 100 := by rw [← hT, List.length_take]; omega
          rw [hT] at hex
          obtain ⟨S, hS⟩ : ∃ S, l ++ T = S := ⟨_, rfl⟩
          have hSl : S.length ≤ 200 := by rw [← hS, List.length_append]; omega
          have a1 : ∀ w, (Op.stringOp .add (bs l) (bs T)).run Try.prog w = .ok (sv S) w := fun w => by rw [← hS]; exact add_bs (by omega) w
          clear hT hS
          go_wp2_with fail
          refine (law_next T _ (by omega) (HM.out.below_ hbw)).mono ?_
          rintro e w1 ⟨rfl, hb1⟩
          have hbw1 := below_trans hbw hb1
          go_wp2_with fail
          refine (law_all T _ (by omega) (HM.out.below_ hbw1)).mono ?_
          rintro e w2 ⟨rfl, hb2⟩
          have hbw2 := below_trans hbw1 hb2
          go_wp2_with fail
          refine (law_all S _ (by omega) (HM.out.below_ hbw2)).mono ?_
          rintro e w3 ⟨rfl, hb3⟩
          go_wp2_with fail
          have hbo := below_trans (below_trans (below_trans hb hb1) hb2) hb3
          go_roundw
          case rel =>
            first
              | exact ⟨j + 1, by omega, by go_num, hbo⟩
              | ((repeat apply Exists.intro); exact ⟨⟨j + 1, by omega, by go_num, hbo⟩, rfl⟩)
          case measure => (simp [intOf]) <;> omega
        · have j1 : (m : Int) < (j : Int) := by omega
          go_wp2_with fail
          refine (law_words l _ (by omega)).mono ?_
          rintro e w1 ⟨rfl, hb1⟩
          have hbo := below_trans hb hb1
          have hcc : Hid (∀ j, j < 30 → ∃ s : ByteArray, s.size ≤ 100 ∧ w1.cell? ⟨w.heap.size, j, none⟩ = some (.string s)) := Lib.hid (fun j hj => by obtain ⟨s, h1, h2⟩ := hc.out j hj; exact ⟨s, h1, (hbo.cell hlt).trans h2⟩)
          have hlt3 : w.heap.size < w1.heap.size := Nat.lt_of_lt_of_le hlt hbo.size
          have hb9 := below_trans hbel hbo
          go_wp2_with fail
          go_roundw
          case rel =>
            first
              | exact ⟨k + 1, by omega, by go_num, hcc, hlt3, hb9⟩
              | ((repeat apply Exists.intro); exact ⟨⟨k + 1, by omega, by go_num, hcc, hlt3, hb9⟩, rfl⟩)
          case measure => (simp [intOf]) <;> omega
    · have hk20 : k = 30 := by omega
      subst hk20
      clear hc
      have hmk : ∀ w : World, (Instr.makeSlice 30 (.int .i64 4096) (.int .i64 4096)).run Try.prog w = .ok (.slice (some ⟨w.heap.size, 0, none⟩) 4096 4096) (w.alloc (.cells C 5)) := Hmk.out
      have hcv := (Hob.out wr wr.heap.size (Nat.le_refl _)).string (P := Try.prog) Try.underlying30 Try.underlying5 Try.underlying9
      have hZl : Z.length = 4096 := HZ.out
      obtain ⟨Z1, hZ1⟩ : ∃ Z1, Z ++ [97] = Z1 := ⟨_, rfl⟩
      obtain ⟨Z2, hZ2⟩ : ∃ Z2, Z ++ [10] = Z2 := ⟨_, rfl⟩
      obtain ⟨Z3, hZ3⟩ : ∃ Z3, Z ++ [13, 10] = Z3 := ⟨_, rfl⟩
      obtain ⟨Z4, hZ4⟩ : ∃ Z4, [97] ++ Z = Z4 := ⟨_, rfl⟩
      obtain ⟨Z5, hZ5⟩ : ∃ Z5, Z4 ++ [10] = Z5 := ⟨_, rfl⟩
      have l1 : Z1.length ≤ 5000 := by rw [← hZ1]; simp; omega
      have l2 : Z2.length ≤ 5000 := by rw [← hZ2]; simp; omega
      have l3 : Z3.length ≤ 5000 := by rw [← hZ3]; simp; omega
      have l4 : Z4.length ≤ 5000 := by rw [← hZ4]; simp; omega
      have l5 : Z5.length ≤ 6000 := by rw [← hZ5]; simp; omega
      have a1 : ∀ w, (Op.stringOp .add (bs Z) (⟨#[97]⟩ : ByteArray)).run Try.prog w = .ok (sv Z1) w := fun w => by rw [← hZ1]; exact add_bs (b := [97]) (by simp; omega) w
      have a2 : ∀ w, (Op.stringOp .add (bs Z) (⟨#[10]⟩ : ByteArray)).run Try.prog w = .ok (sv Z2) w := fun w => by rw [← hZ2]; exact add_bs (b := [10]) (by simp; omega) w
      have a3 : ∀ w, (Op.stringOp .add (bs Z) (⟨#[13, 10]⟩ : ByteArray)).run Try.prog w = .ok (sv Z3) w := fun w => by rw [← hZ3]; exact add_bs (b := [13, 10]) (by simp; omega) w
      have a4 : ∀ w, (Op.stringOp .add (⟨#[97]⟩ : ByteArray) (bs Z)).run Try.prog w = .ok (sv Z4) w := fun w => by rw [← hZ4]; exact add_bs (a := [97]) (by simp; omega) w
      have a5 : ∀ w, (Op.stringOp .add (bs Z4) (⟨#[10]⟩ : ByteArray)).run Try.prog w = .ok (sv Z5) w := fun w => by rw [← hZ5]; exact add_bs (b := [10]) (by simp; omega) w
      have l0 := Lib.hid (show Z.length ≤ 1048576 by omega)
      have hb0 := hbel.alloc hbel.size (.cells C 5)
      clear hZ1 hZ2 hZ3 hZ4 hZ5 hZl
      go_wp2_with fail
      refine (law_next Z _ l0.out (HM.out.below_ hb0)).mono ?_
      rintro e w1 ⟨rfl, hb1⟩
      have hbw1 := below_trans hb0 hb1
      go_wp2_with fail
      refine (law_next Z1 _ (by omega) (HM.out.below_ hbw1)).mono ?_
      rintro e w2 ⟨rfl, hb2⟩
      have hbw2 := below_trans hbw1 hb2
      go_wp2_with fail
      refine (law_next Z2 _ (by omega) (HM.out.below_ hbw2)).mono ?_
      rintro e w3 ⟨rfl, hb3⟩
      have hbw3 := below_trans hbw2 hb3
      go_wp2_with fail
      refine (law_next Z3 _ (by omega) (HM.out.below_ hbw3)).mono ?_
      rintro e w4 ⟨rfl, hb4⟩
      have hbw4 := below_trans hbw3 hb4
      go_wp2_with fail
      refine (law_next Z5 _ (by omega) (HM.out.below_ hbw4)).mono ?_
      rintro e w5 ⟨rfl, hb5⟩
      have hbw5 := below_trans hbw4 hb5
      clear a1 a2 a3 a4 a5 l1 l2 l3 l4 l5 l0 hb0 hb1 hb2 hb3 hb4 hb5 hbw1 hbw2 hbw3 hbw4 hcv hmk
      have HB5 := Lib.hid hbw5
      clear hbw5
      go_wp2_with fail
      go_loopw [5, 6] (fun t x wr => ∃ (i : Nat) (acc : List UInt8), i ≤ 257 ∧ x = .int .i64 i ∧ t = sv acc ∧ acc.length ≤ 2 * i ∧ Below w.heap.size w wr) (fun _ x _ => 257 - (intOf x).toNat)
      case atStart => exact ⟨0, [], by omega, rfl, rfl, by simp, HB5.out⟩
      case round =>
        clear HB5 hbel hlt
        obtain ⟨i, acc, hi, rfl, rfl, hal, hbl⟩ := hrel
        by_cases hi2 : i < 257
        · obtain ⟨S, hS⟩ : ∃ S, acc ++ [97, 32] = S := ⟨_, rfl⟩
          obtain ⟨S2, hS2⟩ : ∃ S2, S ++ [10] = S2 := ⟨_, rfl⟩
          have hSl : S.length ≤ 2 * (i + 1) := by rw [← hS]; simp; omega
          have hSl2 : S2.length ≤ 600 := by rw [← hS2]; simp; omega
          have a1 : ∀ w, (Op.stringOp .add (bs acc) (⟨#[97, 32]⟩ : ByteArray)).run Try.prog w = .ok (sv S) w := fun w => by rw [← hS]; exact add_bs (b := [97, 32]) (by simp; omega) w
          have a2 : ∀ w, (Op.stringOp .add (bs S) (⟨#[10]⟩ : ByteArray)).run Try.prog w = .ok (sv S2) w := fun w => by rw [← hS2]; exact add_bs (b := [10]) (by simp; omega) w
          have j1 : (i : Int) < 257 := by omega
          clear hS hS2
          by_cases hi3 : 253 < i
          · have j2 : (253 : Int) < (i : Int) := by omega
            go_wp2_with fail
            refine (law_words S _ (by omega)).mono ?_
            rintro e w1 ⟨rfl, hb1⟩
            have hbw1 := below_trans hbl hb1
            go_wp2_with fail
            refine (law_next S2 _ (by omega) (HM.out.below_ hbw1)).mono ?_
            rintro e w2 ⟨rfl, hb2⟩
            have hbw2 := below_trans hbw1 hb2
            go_wp2_with fail
            go_roundw
            case rel =>
              first
                | exact ⟨i + 1, S, by omega, by go_num, rfl, hSl, hbw2⟩
                | ((repeat apply Exists.intro); exact ⟨⟨i + 1, S, by omega, by go_num, rfl, hSl, hbw2⟩, rfl⟩)
            case measure => (simp [intOf]) <;> omega
          · have j2 : (i : Int) ≤ 253 := by omega
            go_wp2_with fail
            go_roundw
            case rel =>
              first
                | exact ⟨i + 1, S, by omega, by go_num, rfl, hSl, hbl⟩
                | ((repeat apply Exists.intro); exact ⟨⟨i + 1, S, by omega, by go_num, rfl, hSl, hbl⟩, rfl⟩)
            case measure => (simp [intOf]) <;> omega
        · have j1 : (257 : Int) ≤ (i : Int) := by omega
          have m1 : Rq.make [[97], []] = [42, 50, 13, 10, 36, 49, 13, 10, 97, 13, 10, 36, 48, 13, 10, 13, 10] := by decide +kernel
          have m2 : Rq.make [] = [42, 48, 13, 10] := by decide +kernel
          have M1 := Lib.hid m1
          have M2 := Lib.hid m2
          clear m1 m2
          have hO0 : Own (wr.alloc (.cells #[.string ⟨#[97]⟩, .string ⟨#[]⟩] 9)) w.heap.size 9 1 (.slice (some ⟨wr.heap.size, 0, none⟩) 2 2) 2 [sv [97], sv []] := Own.lit (base := w.heap.size) wr #[sv [97], sv []] 2 hbl.size (by decide) rfl
          have hb0 := hbl.alloc hbl.size (.cells #[.string ⟨#[97]⟩, .string ⟨#[]⟩] 9)
          go_wp2_with fail
          refine (make_any (ls := [[97], []]) _ (hO0.own_reads (Nat.le_refl _)) (Nat.le_refl _) (by decide) (by intro s hs; simp at hs; rcases hs with rfl | rfl <;> decide)).mono ?_
          rintro e w1 ⟨v1, rfl, hM, hb1⟩
          rw [M1.out] at hM
          have hbw1 := below_trans hb0 hb1
          have hcv1 := hM.string (P := Try.prog) Try.underlying30 Try.underlying5 Try.underlying9
          go_wp2_with fail
          refine (make_any (ls := []) (B := 0) (c := 0) w1 Reads.none_ (Nat.zero_le _) (by decide) (by intro s hs; cases hs)).mono ?_
          rintro e w2 ⟨v2, rfl, hM2, hb2⟩
          rw [M2.out] at hM2
          have hbw2 := below_trans hbw1 hb2
          have hcv2 := hM2.string (P := Try.prog) Try.underlying30 Try.underlying5 Try.underlying9
          go_wp2_with fail
          refine (known_any _ (HM.out.below_ hbw2)).mono ?_
          rintro e w3 ⟨rfl, hb3⟩
          go_wp2_with fail
          go_ret
          exact ⟨rfl, below_trans hbw2 hb3⟩
end Go.Proofs.Ytjdnpgdedbegfaa
