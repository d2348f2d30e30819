/- The walk of TextNumbers. -/
import Derived.Test.YtppfmgdooflllaaLaw11
import Derived.Test.YtppfmgdooflllaaLit
import Derived.Laws.MakeOwn
namespace Go.Proofs.Ytppfmgdooflllaa
open Go.RowKit
set_option linter.unusedVariables false

theorem run_make_rowN {P : Program} (t e : TypeId) (i : TypeInfo) (z : Value) (ht : P.underlying t = some (.slice e)) (hi : P.info? e = some i) (hz : i.zero = some z)
    (kl kc : IntKind) (n c : Nat) (hnc : n ≤ c) (hbytes : i.bytes * c ≤ 281474976710656) (h63 : c ≤ 9223372036854775807) (w : World) :
    (Instr.makeSlice t (.int kl (n : Int)) (.int kc (c : Int))).run P w = .ok (.slice (some ⟨w.heap.size, 0, none⟩) n c) (w.alloc (.cells (madeCells z.cells (c * i.size)) e)) := by
  have hb : (i.bytes : Int) * (c : Int) ≤ 281474976710656 := by
    have h : ((i.bytes * c : Nat) : Int) ≤ 281474976710656 := by omega
    rwa [Int.natCast_mul] at h
  have hr := run_make (P := P) w t e i z ht hi hz kl kc n c (by omega) (by omega) hb (by omega)
  simp only [Int.toNat_natCast] at hr
  exact hr
/-- A row of zero bytes that is made: what it is. -/
theorem made_bytes (n : Nat) (hn : n ≤ 1048576) : ∃ (C : Array Value) (Z : List UInt8), Z.length = n ∧ (∀ w : World, (Instr.makeSlice 60 (.int .i64 (n : Int)) (.int .i64 (n : Int))).run Try.prog w = .ok (.slice (some ⟨w.heap.size, 0, none⟩) n n) (w.alloc (.cells C 5))) ∧
    ∀ (w : World) (B : Nat), B ≤ w.heap.size → OB (w.alloc (.cells C 5)) B 5 (.slice (some ⟨w.heap.size, 0, none⟩) n n) Z := by
  obtain ⟨i0, hi, hz0, hz1, hz2⟩ := info_parts u8info
  refine ⟨madeCells (Value.int .u8 0).cells (n * i0.size), List.replicate n 0, by simp, fun w => run_make_rowN _ _ i0 _ Try.underlying60 hi hz0 _ _ n n (Nat.le_refl _) (by rw [hz2]; omega) (by omega) w, fun w B hB => ?_⟩
  have hl : (madeCells (Value.int .u8 0).cells (n * i0.size)).toList = bv (List.replicate n 0) := by
    rw [hz1, Nat.mul_one]
    show (madeCells #[Value.int .u8 0] n).toList = _
    rw [toList_madeCells_one]
    simp [bv]
  have hsz : (madeCells (Value.int .u8 0).cells (n * i0.size)).size = n * 1 := by
    rw [← Array.length_toList, hl, bv_length, List.length_replicate, Nat.mul_one]
  have h := Own.lit (e := 5) w (madeCells (Value.int .u8 0).cells (n * i0.size)) n hB (by unfold maxLen; omega) hsz
  exact OB.mk h hl

theorem append_is (s t : ByteArray) (w : World) (l : List UInt8) (c : Int) (hs : s.size ≤ 1048576) (ht : t.size ≤ 1048576) (h : Tx.append s.data.toList t.data.toList = (l, c)) :
    Calls Try.prog 38 #[.string s, .string t] w fun e w' => e = .returned (.tuple #[sv l, .int .i64 c]) ∧ w = w' :=
  (append_any s t w hs ht).mono fun e w' ⟨he, hw⟩ => ⟨by rw [he, h], hw⟩

set_option maxHeartbeats 8000000 in
theorem textNumbers_walk (w : World) :
    Calls Try.prog 12 #[] w fun e w' => e = .returned (.bool true) ∧ Below w.heap.size w w' := by
  obtain ⟨C, Z, hZ, hmk, hob⟩ := made_bytes 65536 (by omega)
  have Hmk := Lib.hid hmk
  have Hob := Lib.hid hob
  have a1 : Hid (Tx.append (bs Z).data.toList (⟨#[]⟩ : ByteArray).data.toList = (Z, 0)) := Lib.hid (by rw [bs_data]; unfold Tx.append; rw [if_neg (by rw [hZ]; decide)]; simp)
  have a2 : Hid (Tx.append (bs Z).data.toList (⟨#[97]⟩ : ByteArray).data.toList = ([], 11)) := Lib.hid (by rw [bs_data]; unfold Tx.append; rw [if_pos (by rw [hZ]; decide)])
  clear hmk hob
  go_enter Try.func12, Try.ntmps12
  go_wp2_with fail
  go_loopw [2, 3] (fun a _ wr => ∃ k : Nat, k ≤ 19 ∧ a = .int .i64 ((k : Int) - 9) ∧ Below w.heap.size w wr)
    (fun a _ _ => (10 - intOf a).toNat)
  case atStart => exact ⟨0, by omega, rfl, Below.refl _ _⟩
  case round =>
    obtain ⟨k, hk, rfl, hbel⟩ := hrel
    obtain ⟨w0, hw0⟩ : ∃ w0 : World, w0 = wr := ⟨_, rfl⟩
    subst hw0
    by_cases hk19 : k < 19
    · have hd1 : decide ((k : Int) - 9 < 10) = true := by rw [decide_eq_true_iff]; omega
      go_wp2_with fail
      go_loopw [3] (fun b wr => ∃ m : Nat, m ≤ 19 ∧ b = .int .i64 ((m : Int) - 9) ∧ Below w0.heap.size w0 wr)
        (fun b _ => (10 - intOf b).toNat)
      case atStart => exact ⟨0, by omega, rfl, Below.refl _ _⟩
      case round =>
        obtain ⟨m, hm, rfl, hb0⟩ := hrel
        by_cases hm19 : m < 19
        · have hd2 : decide ((m : Int) - 9 < 10) = true := by rw [decide_eq_true_iff]; omega
          go_wp2_with fail
          refine (ranges_any _ _ _ _ (by omega) (by omega) (by decide)).mono ?_
          rintro e w3 ⟨rfl, hb3⟩
          go_wp2_with fail
          refine (ranges_any _ _ _ _ (by omega) (by omega) (by decide)).mono ?_
          rintro e w4 ⟨rfl, hb4⟩
          go_wp2_with fail
          refine ⟨?_, by simp [intOf]; omega⟩
          first
            | exact ⟨m + 1, by omega, by go_num, below_trans (below_trans hb0 hb3) hb4⟩
            | ((repeat apply Exists.intro)
               exact ⟨⟨m + 1, by omega, by go_num, below_trans (below_trans hb0 hb3) hb4⟩, rfl⟩)
        · have hm2 : m = 19 := by omega
          subst hm2
          clear hm hm19
          go_wp2_with fail
          refine (sets_any _ _ _ _ _ (by decide) (by omega) (by decide) (by omega)).mono ?_
          rintro e w3 ⟨rfl, hb3⟩
          go_wp2_with fail
          refine (sets_any _ _ _ _ _ (by decide) (by omega) (by decide) (by omega)).mono ?_
          rintro e w4 ⟨rfl, hb4⟩
          go_wp2_with fail
          refine ⟨?_, by simp [intOf]; omega⟩
          first
            | exact ⟨k + 1, by omega, by go_num, below_trans (below_trans (below_trans hbel hb0) hb3) hb4⟩
            | ((repeat apply Exists.intro)
               exact ⟨⟨k + 1, by omega, by go_num, below_trans (below_trans (below_trans hbel hb0) hb3) hb4⟩, rfl⟩)
    · have hk2 : k = 19 := by omega
      subst hk2
      clear hk hk19
      go_wp2_with fail
      have hli := Lib.hid (ints_lit (cs := #[.int .i64 (-9223372036854775808), .int .i64 (-1), .int .i64 0, .int .i64 65534, .int .i64 65535, .int .i64 65536, .int .i64 524287, .int .i64 524288, .int .i64 9223372036854775807]) (n := 9) (by decide +kernel) w0 2)
      go_loopw [46] (fun x wr => ∃ m : Nat, m ≤ 9 ∧ x = .int .i64 m ∧ Hid (∀ j, j < 9 → ∃ n : Int, (-9223372036854775808 ≤ n ∧ n ≤ 9223372036854775807) ∧ wr.cell? ⟨w0.heap.size, j, none⟩ = some (.int .i64 n)) ∧ w0.heap.size < wr.heap.size ∧ Below w0.heap.size w0 wr)
        (fun x _ => 9 - (intOf x).toNat)
      case atStart => exact ⟨0, by omega, rfl, hli, by simp, (Below.refl _ _).alloc (Nat.le_refl _) _⟩
      case round =>
        clear hli
        obtain ⟨m, hm, rfl, hc, hlt, hb0⟩ := hrel
        by_cases hm9 : m < 9
        · obtain ⟨n, hn, hcell⟩ := hc.out m hm9
          go_wp2_with fail
          refine (sets_any _ _ _ _ _ (by decide) hn (by decide) (by omega)).mono ?_
          rintro e w3 ⟨rfl, hb3⟩
          go_wp2_with fail
          refine (sets_any _ _ _ _ _ (by decide) hn (by decide) (by omega)).mono ?_
          rintro e w4 ⟨rfl, hb4⟩
          go_wp2_with fail
          refine (ranges_any _ _ _ _ hn hn (by decide)).mono ?_
          rintro e w5 ⟨rfl, hb5⟩
          go_wp2_with fail
          refine (ranges_any _ _ _ _ (by omega) hn (by decide)).mono ?_
          rintro e w6 ⟨rfl, hb6⟩
          have hbb := below_trans (below_trans (below_trans hb3 hb4) hb5) hb6
          have hcc : Hid (∀ j, j < 9 → ∃ n : Int, (-9223372036854775808 ≤ n ∧ n ≤ 9223372036854775807) ∧ w6.cell? ⟨w0.heap.size, j, none⟩ = some (.int .i64 n)) := Lib.hid (fun j hj => by obtain ⟨n, h1, h2⟩ := hc.out j hj; exact ⟨n, h1, (hbb.cell hlt).trans h2⟩)
          go_wp2_with fail
          refine ⟨?_, by simp [intOf]; omega⟩
          first
            | exact ⟨m + 1, by omega, by go_num, hcc, Nat.lt_of_lt_of_le hlt hbb.size, below_trans hb0 hbb⟩
            | ((repeat apply Exists.intro)
               exact ⟨⟨m + 1, by omega, by go_num, hcc, Nat.lt_of_lt_of_le hlt hbb.size, below_trans hb0 hbb⟩, rfl⟩)
        · clear hc
          go_wp2_with fail
          obtain ⟨w1, hw1⟩ : ∃ w1 : World, w1 = wr := ⟨_, rfl⟩
          subst hw1
          have hls := Lib.hid (strs_lit (cs := #[.string ⟨#[]⟩, .string ⟨#[48]⟩, .string ⟨#[45, 49]⟩, .string ⟨#[57, 50, 50, 51, 51, 55, 50, 48, 51, 54, 56, 53, 52, 55, 55, 53, 56, 48, 55]⟩, .string ⟨#[45, 57, 50, 50, 51, 51, 55, 50, 48, 51, 54, 56, 53, 52, 55, 55, 53, 56, 48, 56]⟩, .string ⟨#[48, 49]⟩, .string ⟨#[97]⟩, .string ⟨#[32, 49]⟩]) (n := 8) (m := 100) (by decide +kernel) w1 9)
          go_loopw [74] (fun x wr => ∃ m : Nat, m ≤ 8 ∧ x = .int .i64 m ∧ Hid (∀ j, j < 8 → ∃ s : ByteArray, s.size ≤ 100 ∧ wr.cell? ⟨w1.heap.size, j, none⟩ = some (.string s)) ∧ w1.heap.size < wr.heap.size ∧ Below w1.heap.size w1 wr)
            (fun x _ => 8 - (intOf x).toNat)
          case atStart => exact ⟨0, by omega, rfl, hls, by simp, (Below.refl _ _).alloc (Nat.le_refl _) _⟩
          case round =>
            clear hls
            obtain ⟨m, hm, rfl, hc, hlt, hb1⟩ := hrel
            by_cases hm8 : m < 8
            · obtain ⟨s, hs, hcell⟩ := hc.out m hm8
              have hs2 : s.size ≤ maxLen := by unfold maxLen; omega
              go_wp2_with fail
              refine (adds11_any s _ _ hs2 (by omega)).mono ?_
              rintro e w3 ⟨rfl, hb3⟩
              go_wp2_with fail
              refine (adds11_any s _ _ hs2 (by omega)).mono ?_
              rintro e w4 ⟨rfl, hb4⟩
              go_wp2_with fail
              refine (adds11_any s _ _ hs2 (by omega)).mono ?_
              rintro e w5 ⟨rfl, hb5⟩
              go_wp2_with fail
              refine (adds11_any s _ _ hs2 (by omega)).mono ?_
              rintro e w6 ⟨rfl, hb6⟩
              have hbb := below_trans (below_trans (below_trans hb3 hb4) hb5) hb6
              have hcc : Hid (∀ j, j < 8 → ∃ s : ByteArray, s.size ≤ 100 ∧ w6.cell? ⟨w1.heap.size, j, none⟩ = some (.string s)) := Lib.hid (fun j hj => by obtain ⟨n, h1, h2⟩ := hc.out j hj; exact ⟨n, h1, (hbb.cell hlt).trans h2⟩)
              go_wp2_with fail
              refine ⟨?_, by simp [intOf]; omega⟩
              first
                | exact ⟨m + 1, by omega, by go_num, hcc, Nat.lt_of_lt_of_le hlt hbb.size, below_trans hb1 hbb⟩
                | ((repeat apply Exists.intro)
                   exact ⟨⟨m + 1, by omega, by go_num, hcc, Nat.lt_of_lt_of_le hlt hbb.size, below_trans hb1 hbb⟩, rfl⟩)
            · clear hc
              have hmk : ∀ w : World, (Instr.makeSlice 60 (.int .i64 65536) (.int .i64 65536)).run Try.prog w = .ok (.slice (some ⟨w.heap.size, 0, none⟩) 65536 65536) (w.alloc (.cells C 5)) := Hmk.out
              have hcv := (Hob.out wr wr.heap.size (Nat.le_refl _)).string (P := Try.prog) Try.underlying60 Try.underlying5 Try.underlying9
              go_wp2_with fail
              refine (append_is (bs Z) ⟨#[]⟩ _ Z 0 (by rw [bs_size]; omega) (by decide) a1.out).mono ?_
              rintro e w3 ⟨rfl, rfl⟩
              go_wp2_with fail
              refine (append_is (bs Z) ⟨#[97]⟩ _ [] 11 (by rw [bs_size]; omega) (by decide) a2.out).mono ?_
              rintro e w3 ⟨rfl, rfl⟩
              go_wp2_with fail
              refine (known11_any _).mono ?_
              rintro e w9 ⟨rfl, hb9⟩
              go_wp2_with fail
              go_ret
              exact ⟨rfl, below_trans (below_trans (below_trans hbel hb0) (hb1.alloc hb1.size _)) hb9⟩
end Go.Proofs.Ytppfmgdooflllaa
