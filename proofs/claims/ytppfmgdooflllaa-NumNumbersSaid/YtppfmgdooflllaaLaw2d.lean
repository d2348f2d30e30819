/- The walks of NumTells and NumNumbers. -/
import Derived.Test.YtppfmgdooflllaaLaw2
import Derived.Test.YtppfmgdooflllaaLit
import Derived.Deep.QuietTactic
import Derived.BigQuiet
import Derived.Deep.RegionHeld3
namespace Go.Proofs.Ytppfmgdooflllaa
open Go.RowKit
set_option linter.unusedVariables false

set_option maxHeartbeats 1000000 in
theorem parses_any (s : ByteArray) (w : World) (hl : s.size ≤ maxLen) :
    Calls Try.prog 23 #[.string s] w fun e w' => e = .returned (.bool true) ∧ Below w.heap.size w w' := by
  go_enter Try.func23, Try.ntmps23
  go_wp2_with fail
  refine (parse_any s _ hl).mono ?_
  rintro e w1 ⟨rfl, hb1⟩
  go_wp2_with fail
  refine (ref_parse s _ hl).mono ?_
  rintro e w2 ⟨rfl, rfl⟩
  go_wp2_with fail
  refine (cursor_any s _ hl).mono ?_
  rintro e w3 ⟨rfl, rfl⟩
  go_wp2_with fail
  refine (ref_cursor s _ hl).mono ?_
  rintro e w4 ⟨rfl, rfl⟩
  go_wp2_with fail
  go_ret
  exact ⟨rfl, hb1⟩

theorem negate_some2 (a : Int) (w : World) (ha : -9223372036854775807 ≤ a) (ha2 : a ≤ 9223372036854775807) :
    Calls Try.prog 22 #[.int .i64 a] w fun e w' => e = .returned (.tuple #[.int .i64 (-a), .bool true]) ∧ w = w' :=
  (negate_any a w (by omega) ha2).mono fun e w' ⟨he, hw⟩ => ⟨by rw [he, show Num.neg a = some (-a) from if_neg (by omega)]; rfl, hw⟩
theorem negate_least2 (w : World) :
    Calls Try.prog 22 #[.int .i64 (-9223372036854775808)] w fun e w' => e = .returned (.tuple #[.int .i64 0, .bool false]) ∧ w = w' :=
  (negate_any _ w (by omega) (by omega)).mono fun e w' ⟨he, hw⟩ => ⟨by rw [he, show Num.neg (-9223372036854775808) = none from if_pos rfl]; rfl, hw⟩

set_option maxHeartbeats 1000000 in
theorem adds2_any (a b : Int) (w : World) (ha : -9223372036854775808 ≤ a ∧ a ≤ 9223372036854775807) (hb : -9223372036854775808 ≤ b ∧ b ≤ 9223372036854775807) :
    Calls Try.prog 26 #[.int .i64 a, .int .i64 b] w fun e w' => e = .returned (.bool true) ∧ w = w' := by
  by_cases h : a = -9223372036854775808
  · subst h
    go_enter Try.func26, Try.ntmps26
    go_wp2_with fail
    refine (add_any _ b _ ha.1 ha.2 hb.1 hb.2).mono ?_
    rintro e w1 ⟨rfl, rfl⟩
    go_wp2_with fail
    refine (ref_add _ b _ ha.1 ha.2 hb.1 hb.2).mono ?_
    rintro e w2 ⟨rfl, rfl⟩
    go_wp2_with fail
    refine (negate_least2 _).mono ?_
    rintro e w3 ⟨rfl, rfl⟩
    go_wp2_with fail
    go_ret
    exact ⟨rfl, rfl⟩
  · have hw : wrap64 (-a) = -a := IntWalk.wrap64_in _ (by omega)
    have hx : (a == -9223372036854775808) = false := by simpa using h
    have hx2 : (a != -9223372036854775808) = true := by simpa using h
    go_enter Try.func26, Try.ntmps26
    go_wp2_with fail
    refine (add_any _ b _ ha.1 ha.2 hb.1 hb.2).mono ?_
    rintro e w1 ⟨rfl, rfl⟩
    go_wp2_with fail
    refine (ref_add _ b _ ha.1 ha.2 hb.1 hb.2).mono ?_
    rintro e w2 ⟨rfl, rfl⟩
    go_wp2_with fail
    refine (negate_some2 _ _ (by omega) (by omega)).mono ?_
    rintro e w3 ⟨rfl, rfl⟩
    go_wp2_with fail
    go_ret
    exact ⟨rfl, rfl⟩

set_option maxHeartbeats 1000000 in
theorem numTells_walk (a b u : Int) (s : ByteArray) (w : World) (ha : -9223372036854775808 ≤ a ∧ a ≤ 9223372036854775807) (hb : -9223372036854775808 ≤ b ∧ b ≤ 9223372036854775807) (hu : 0 ≤ u ∧ u < 18446744073709551616) (hs : s.size ≤ maxLen) :
    Calls Try.prog 7 #[.int .i64 a, .int .i64 b, .int .u64 u, .string s] w fun e w' => e = .returned (.bool true) ∧ Below w.heap.size w w' := by
  obtain ⟨u, rfl⟩ := Int.eq_ofNat_of_zero_le hu.1
  have hfl := Num.fmt_length a
  have hul := Num.uns_length u
  have hu2 : u < 18446744073709551616 := by omega
  go_enter Try.func7, Try.ntmps7
  go_wp2_with fail
  refine (cut_any s 30 _ hs (by omega)).mono ?_
  rintro e w1 ⟨rfl, rfl⟩
  go_wp2_with fail
  refine (parses_any _ _ (by rw [bs_size, List.length_take]; unfold maxLen; omega)).mono ?_
  rintro e w2 ⟨rfl, hb2⟩
  go_wp2_with fail
  refine (ref_format a _ ha.1 ha.2).mono ?_
  rintro e w3 ⟨rfl, rfl⟩
  go_wp2_with fail
  refine (parses_any _ _ (by rw [bs_size]; unfold maxLen; omega)).mono ?_
  rintro e w4 ⟨rfl, hb4⟩
  go_wp2_with fail
  refine (ref_unsigned u _ hu2).mono ?_
  rintro e w5 ⟨rfl, rfl⟩
  go_wp2_with fail
  refine (parses_any _ _ (by rw [bs_size]; unfold maxLen; omega)).mono ?_
  rintro e w6 ⟨rfl, hb6⟩
  go_wp2_with fail
  refine (adds2_any a b _ ha hb).mono ?_
  rintro e w7 ⟨rfl, rfl⟩
  go_wp2_with fail
  refine (format_any a _ ha.1 ha.2).mono ?_
  rintro e w8 ⟨rfl, hb8⟩
  go_wp2_with fail
  refine (ref_format a _ ha.1 ha.2).mono ?_
  rintro e w9 ⟨rfl, rfl⟩
  go_wp2_with fail
  refine (unsigned_any u _ hu2).mono ?_
  rintro e w10 ⟨rfl, hb10⟩
  go_wp2_with fail
  refine (ref_unsigned u _ hu2).mono ?_
  rintro e w11 ⟨rfl, rfl⟩
  go_wp2_with fail
  refine (known2_any _).mono ?_
  rintro e w12 ⟨rfl, hb12⟩
  go_wp2_with fail
  go_ret
  exact ⟨rfl, below_trans (below_trans (below_trans (below_trans (below_trans hb2 hb4) hb6) hb8) hb10) hb12⟩

theorem keepS {w w1 wo : World} {k : Nat} {v : Value} (h : w.cell? ⟨wo.heap.size, k, none⟩ = some v ∧ wo.heap.size < w.heap.size ∧ Below wo.heap.size wo w) (hb : Below w.heap.size w w1) :
    w1.cell? ⟨wo.heap.size, k, none⟩ = some v ∧ wo.heap.size < w1.heap.size ∧ Below wo.heap.size wo w1 :=
  ⟨(hb.cell h.2.1).trans h.1, Nat.lt_of_lt_of_le h.2.1 hb.size, below_trans h.2.2 hb⟩

set_option maxHeartbeats 4000000 in
theorem numNumbers_walk (w : World) :
    Calls Try.prog 6 #[] w fun e w' => e = .returned (.bool true) ∧ Below w.heap.size w w' := by
  go_enter Try.func6, Try.ntmps6
  go_wp2_with fail
  go_loopw [8] (fun i wr => ∃ k : Nat, k ≤ 20 ∧ i = .int .i64 k ∧ Hid (∀ j, j < 20 → ∃ s : ByteArray, s.size ≤ 100 ∧ wr.cell? ⟨w.heap.size, j, none⟩ = some (.string s)) ∧ w.heap.size < wr.heap.size ∧ Below w.heap.size w wr)
    (fun i _ => 20 - (intOf i).toNat)
  case atStart =>
    refine ⟨0, by omega, rfl, Lib.hid ?_, by simp, (Below.refl _ _).alloc (Nat.le_refl _) _⟩
    exact strs_lit (by decide +kernel) _ _
  case round =>
    obtain ⟨k, hk, rfl, hc, hlt, hbel⟩ := hrel
    by_cases hlt2 : k < 20
    · obtain ⟨s, hs, hcell⟩ := hc.out k hlt2
      go_wp2_with fail
      refine (parses_any s _ (by unfold maxLen; omega)).mono ?_
      rintro e w2 ⟨rfl, hb2⟩
      go_wp2_with fail
      go_roundw
      case rel => exact ⟨k + 1, by omega, by go_num, Lib.hid (fun j hj => by obtain ⟨s, h1, h2⟩ := hc.out j hj; exact ⟨s, h1, (hb2.cell hlt).trans h2⟩), Nat.lt_of_lt_of_le hlt hb2.size, below_trans hbel hb2⟩
      case measure => simp [intOf]; omega
    · have hk20 : k = 20 := by omega
      subst hk20
      clear hc
      go_wp2_with fail
      have hli := Lib.hid (ints_lit (cs := #[.int .i64 (-9223372036854775808), .int .i64 (-9223372036854775807), .int .i64 (-4611686018427387904), .int .i64 (-1), .int .i64 0, .int .i64 1, .int .i64 4611686018427387904, .int .i64 9223372036854775807]) (n := 8) (by decide +kernel) wr 2)
      obtain ⟨wo, hwo⟩ : ∃ wo : World, wo = wr := ⟨_, rfl⟩
      subst hwo
      go_loopw [4, 5] (fun i x wq => ∃ k : Nat, k ≤ 8 ∧ i = .int .i64 k ∧ Hid (∀ j, j < 8 → ∃ n : Int, (-9223372036854775808 ≤ n ∧ n ≤ 9223372036854775807) ∧ wq.cell? ⟨wo.heap.size, j, none⟩ = some (.int .i64 n)) ∧ wo.heap.size < wq.heap.size ∧ Below wo.heap.size wo wq)
        (fun i _ _ => 8 - (intOf i).toNat)
      case atStart =>
        exact ⟨0, by omega, rfl, hli, by simp, (Below.refl _ _).alloc (Nat.le_refl _) _⟩
      case round =>
        clear hli
        obtain ⟨k, hk, rfl, hc, hlq, hbq⟩ := hrel
        by_cases hk8 : k < 8
        · obtain ⟨n, hn, hcell⟩ := hc.out k hk8
          obtain ⟨u, hu⟩ : ∃ u : Nat, IntKind.u64.wrap n = (u : Int) := ⟨(IntKind.u64.wrap n).toNat, by rw [IntKind.wrap_u64]; omega⟩
          have hu2 : u < 18446744073709551616 := by rw [IntKind.wrap_u64] at hu; omega
          go_wp2_with fail
          go_region_held3 (fun w' => w'.cell? ⟨wo.heap.size, k, none⟩ = some (.int .i64 n) ∧ wo.heap.size < w'.heap.size ∧ Below wo.heap.size wo w') (first | exact ⟨hcell, hlq, hbq⟩ | exact ⟨hcell, hlq, hbq.drew⟩ | exact hS2 | exact hS1)
            (first
              | (go_at_call 15; refine (format_any n _ hn.1 hn.2).mono ?_; rintro e w1 ⟨rfl, hb1⟩; have hS1 := keepS (w := wr.drew) ⟨hcell, hlq, hbq.drew⟩ hb1)
              | (go_at_call 24; refine (ref_format n _ hn.1 hn.2).mono ?_; rintro e w2 ⟨rfl, rfl⟩)
              | (go_at_call 17; refine (unsigned_any u _ hu2).mono ?_; rintro e w3 ⟨rfl, hb2⟩; have hS2 := keepS hS1 hb2)
              | (go_at_call 25; refine (ref_unsigned u _ hu2).mono ?_; rintro e w2 ⟨rfl, rfl⟩))
          have hbw : Below wr.heap.size wr w3 := below_trans ((Below.refl _ _).drew) (below_trans hb1 hb2)
          have hcw : Hid (∀ j, j < 8 → ∃ n : Int, (-9223372036854775808 ≤ n ∧ n ≤ 9223372036854775807) ∧ w3.cell? ⟨wo.heap.size, j, none⟩ = some (.int .i64 n)) := Lib.hid (fun j hj => by
            obtain ⟨x, h1, h2⟩ := hc.out j hj
            exact ⟨x, h1, (hbw.cell hlq).trans h2⟩)
          have hlt3 : wo.heap.size < w3.heap.size := hS2.2.1
          have hb3 : Below wo.heap.size wo w3 := hS2.2.2
          clear hS1 hS2 hb1 hb2 hbw hc hcell hbq hlq hu hu2 hn
          go_wp2_with fail
          go_loopw [5] (fun x wq => ∃ m : Nat, m ≤ 8 ∧ x = .int .i64 m ∧ Hid (∀ j, j < 8 → ∃ n : Int, (-9223372036854775808 ≤ n ∧ n ≤ 9223372036854775807) ∧ wq.cell? ⟨wo.heap.size, j, none⟩ = some (.int .i64 n)) ∧ wo.heap.size < wq.heap.size ∧ Below wo.heap.size wo wq)
            (fun x _ => 8 - (intOf x).toNat)
          case atStart => exact ⟨0, by omega, rfl, hcw, hlt3, hb3⟩
          case round =>
            clear hcw hlt3 hb3
            obtain ⟨m, hm, rfl, hc, hlq, hbq⟩ := hrel
            by_cases hm8 : m < 8
            · obtain ⟨x, hx, hcx⟩ := hc.out k hk8
              obtain ⟨y, hy, hcy⟩ := hc.out m hm8
              go_wp2_with fail
              go_quiet ((go_at_call 26; exact Calls.quiet_of_same ((adds2_any x y _ hx hy).mono fun e w' ⟨he, hw⟩ => ⟨he, hw.symm⟩)))
              go_wp2_with fail
              go_roundw
              case rel => exact ⟨m + 1, by omega, by go_num, hc, hlq, ⟨hbq.os, hbq.tape, hbq.output, hbq.size, hbq.block⟩⟩
              case measure => simp [intOf]; omega
            · go_wp2_with fail
              refine ⟨?_, ?_⟩
              · (repeat apply Exists.intro)
                exact ⟨⟨k + 1, by omega, by go_num, hc, hlq, hbq⟩, rfl⟩
              · simp [intOf]; omega
        · clear hc
          go_wp2_with fail
          refine (known2_any _).mono ?_
          rintro e w9 ⟨rfl, hb9⟩
          go_wp2_with fail
          go_ret
          exact ⟨rfl, below_trans (below_trans hbel hbq) hb9⟩
end Go.Proofs.Ytppfmgdooflllaa
