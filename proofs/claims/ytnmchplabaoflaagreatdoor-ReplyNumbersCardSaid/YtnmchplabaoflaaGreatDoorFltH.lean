/- The walk of the document's answer tallboyref1.Text: a code's words, the command printable. -/
import Derived.Test.YtnmchplabaoflaaGreatDoorFltG
namespace Go.Proofs.YtnmchplabaoflaaGreatDoor
open Go.RowKit Go.Shelf
set_option linter.unusedVariables false

theorem enc_ascii (c : UInt8) (h : c.toNat < 128) : Utf8.encode (c.toNat : Int) = bs [c] := by
  have hv : Utf8.valid (c.toNat : Int) = true := by simp [Utf8.valid]; omega
  unfold Utf8.encode
  simp only [hv, if_true, Int.toNat_natCast, h]
  simp [bs]

theorem bs_get' (l : List UInt8) (i : Nat) (h : i < (bs l).size) (hl : i < l.length) : (bs l)[i]'h = l[i]'hl := by
  show (bs l).data[i] = _
  simp [bs]

set_option maxRecDepth 100000 in
set_option maxHeartbeats 4000000 in
theorem reft_1 (s : List UInt8) (w : World) (hs : s.length ≤ 1000) :
    Calls Tryz.prog 10 #[.int .i64 1, .string (bs s)] w fun e w' => e = .returned (sv (tx 1 (pln s))) ∧ w = w' := by
  rw [tx_1]
  obtain ⟨N, hN⟩ : ∃ N, s.length = N := ⟨_, rfl⟩
  have HN := Lib.hid hN
  have HP : Hid ((pln s).take N = pln s) := Lib.hid (List.take_of_length_le (by rw [pln_len, hN]; exact Nat.le_refl _))
  rw [hN] at hs
  have hsz : (bs s).size = N := by rw [bs_size]; exact hN
  clear hN
  go_enter Tryz.func10, Tryz.ntmps10
  go_wp2_with fail
  go_loopw [5, 6] (fun x y wr => ∃ k, x = sv ((pln s).take k) ∧ y = .int .i64 (k : Nat) ∧ k ≤ N ∧ wr = w) (fun x y _ => N - (intOf y).toNat)
  case atStart => exact ⟨0, rfl, rfl, by omega, rfl⟩
  case round =>
    obtain ⟨k, rfl, rfl, hk, rfl⟩ := hrel
    rcases Nat.lt_or_ge k N with hlt | hge
    · have hkl : k < s.length := by rw [HN.out]; exact hlt
      have hlt' : (k : Int) < (N : Int) := by omega
      have htk : (pln s).take (k + 1) = (pln s).take k ++ [qm s[k]] := by
        rw [List.take_add_one, pln_get s k hkl]; rfl
      have hg1 : (bs s)[k]'(by rw [bs_size]; omega) = s[k] := bs_get' s k (by rw [bs_size]; omega) hkl
      have he := enc_ascii (qm s[k]) (by have := qm_range s[k]; omega)
      obtain ⟨d, hd⟩ : ∃ d, s[k] = d := ⟨_, rfl⟩
      rw [hd] at htk hg1 he
      obtain ⟨acc, hacc⟩ : ∃ acc, (pln s).take k = acc := ⟨_, rfl⟩
      rw [hacc] at htk ⊢
      have HT := Lib.hid htk
      have HA := Lib.hid hacc
      have hal : acc.length = k := by rw [← hacc, List.length_take, pln_len]; omega
      have hadd : ∀ w, (Op.stringOp .add (bs acc) (bs [qm d])).run Tryz.prog w = .ok (sv (acc ++ [qm d])) w := fun w => (run_string_add_sum w _ _ (by simp; omega)).trans (by rw [bs_append])
      have i0 : (0 : Int) ≤ (k : Int) := by omega
      clear htk hacc hd hal
      by_cases hb : d.toNat < 32 ∨ 126 < d.toNat ∨ d.toNat = 39
      · have hq2 : qm d = 63 := by unfold qm; rw [if_pos hb]
        have HQ := Lib.hid hq2
        rw [hq2] at hadd he
        have e63 : Utf8.encode 63 = bs [63] := he
        clear hq2 he
        rcases (show (d.toNat : Int) < 32 ∨ (¬ (d.toNat : Int) < 32 ∧ (126 : Int) < d.toNat) ∨ (¬ (d.toNat : Int) < 32 ∧ ¬ (126 : Int) < d.toNat ∧ d = 39) by
            rcases hb with h | h | h
            · omega
            · omega
            · refine .inr (.inr ⟨by omega, by omega, UInt8.toNat_inj.1 (by rw [h]; rfl)⟩)) with h1 | ⟨h1, h2⟩ | ⟨h1, h2, h3⟩
        all_goals
          clear hb
          try subst h3
          go_wp2_with fail
          go_roundw
          case rel => exact ⟨k + 1, by rw [HT.out, HQ.out], by go_num, by omega, trivial⟩
          case measure => simp [intOf]; omega
      · have hq2 : qm d = d := by unfold qm; rw [if_neg hb]
        have HQ := Lib.hid hq2
        rw [hq2] at hadd he
        have h1 : ¬ (d.toNat : Int) < 32 := by omega
        have h2 : ¬ (126 : Int) < (d.toNat : Int) := by omega
        have h3 : ((d.toNat : Int) == 39) = false := by rw [beq_eq_false_iff_ne]; omega
        clear hq2 hb
        go_wp2_with fail
        go_roundw
        case rel => exact ⟨k + 1, by rw [HT.out, HQ.out], by go_num, by omega, trivial⟩
        case measure => simp [intOf]; omega
    · have hge' : ¬ (k : Int) < (N : Int) := by omega
      have hkN : k = N := by omega
      subst hkN
      rw [HP.out]
      have hpl : (pln s).length ≤ 1000 := by rw [pln_len, HN.out]; exact hs
      go_wp2
      go_ret
      exact ⟨str_ret (by first | rfl | (rw [show ∀ a b : List UInt8, bs (a ++ b) = bs a ++ bs b from fun a b => (bs_append a b).symm, show ∀ a b : List UInt8, bs (a ++ b) = bs a ++ bs b from fun a b => (bs_append a b).symm]; rfl)), rfl⟩
set_option maxRecDepth 100000 in
set_option maxHeartbeats 4000000 in
theorem reft_2 (s : List UInt8) (w : World) (hs : s.length ≤ 1000) :
    Calls Tryz.prog 10 #[.int .i64 2, .string (bs s)] w fun e w' => e = .returned (sv (tx 2 (pln s))) ∧ w = w' := by
  rw [tx_2]
  obtain ⟨N, hN⟩ : ∃ N, s.length = N := ⟨_, rfl⟩
  have HN := Lib.hid hN
  have HP : Hid ((pln s).take N = pln s) := Lib.hid (List.take_of_length_le (by rw [pln_len, hN]; exact Nat.le_refl _))
  rw [hN] at hs
  have hsz : (bs s).size = N := by rw [bs_size]; exact hN
  clear hN
  go_enter Tryz.func10, Tryz.ntmps10
  go_wp2_with fail
  go_loopw [5, 6] (fun x y wr => ∃ k, x = sv ((pln s).take k) ∧ y = .int .i64 (k : Nat) ∧ k ≤ N ∧ wr = w) (fun x y _ => N - (intOf y).toNat)
  case atStart => exact ⟨0, rfl, rfl, by omega, rfl⟩
  case round =>
    obtain ⟨k, rfl, rfl, hk, rfl⟩ := hrel
    rcases Nat.lt_or_ge k N with hlt | hge
    · have hkl : k < s.length := by rw [HN.out]; exact hlt
      have hlt' : (k : Int) < (N : Int) := by omega
      have htk : (pln s).take (k + 1) = (pln s).take k ++ [qm s[k]] := by
        rw [List.take_add_one, pln_get s k hkl]; rfl
      have hg1 : (bs s)[k]'(by rw [bs_size]; omega) = s[k] := bs_get' s k (by rw [bs_size]; omega) hkl
      have he := enc_ascii (qm s[k]) (by have := qm_range s[k]; omega)
      obtain ⟨d, hd⟩ : ∃ d, s[k] = d := ⟨_, rfl⟩
      rw [hd] at htk hg1 he
      obtain ⟨acc, hacc⟩ : ∃ acc, (pln s).take k = acc := ⟨_, rfl⟩
      rw [hacc] at htk ⊢
      have HT := Lib.hid htk
      have HA := Lib.hid hacc
      have hal : acc.length = k := by rw [← hacc, List.length_take, pln_len]; omega
      have hadd : ∀ w, (Op.stringOp .add (bs acc) (bs [qm d])).run Tryz.prog w = .ok (sv (acc ++ [qm d])) w := fun w => (run_string_add_sum w _ _ (by simp; omega)).trans (by rw [bs_append])
      have i0 : (0 : Int) ≤ (k : Int) := by omega
      clear htk hacc hd hal
      by_cases hb : d.toNat < 32 ∨ 126 < d.toNat ∨ d.toNat = 39
      · have hq2 : qm d = 63 := by unfold qm; rw [if_pos hb]
        have HQ := Lib.hid hq2
        rw [hq2] at hadd he
        have e63 : Utf8.encode 63 = bs [63] := he
        clear hq2 he
        rcases (show (d.toNat : Int) < 32 ∨ (¬ (d.toNat : Int) < 32 ∧ (126 : Int) < d.toNat) ∨ (¬ (d.toNat : Int) < 32 ∧ ¬ (126 : Int) < d.toNat ∧ d = 39) by
            rcases hb with h | h | h
            · omega
            · omega
            · refine .inr (.inr ⟨by omega, by omega, UInt8.toNat_inj.1 (by rw [h]; rfl)⟩)) with h1 | ⟨h1, h2⟩ | ⟨h1, h2, h3⟩
        all_goals
          clear hb
          try subst h3
          go_wp2_with fail
          go_roundw
          case rel => exact ⟨k + 1, by rw [HT.out, HQ.out], by go_num, by omega, trivial⟩
          case measure => simp [intOf]; omega
      · have hq2 : qm d = d := by unfold qm; rw [if_neg hb]
        have HQ := Lib.hid hq2
        rw [hq2] at hadd he
        have h1 : ¬ (d.toNat : Int) < 32 := by omega
        have h2 : ¬ (126 : Int) < (d.toNat : Int) := by omega
        have h3 : ((d.toNat : Int) == 39) = false := by rw [beq_eq_false_iff_ne]; omega
        clear hq2 hb
        go_wp2_with fail
        go_roundw
        case rel => exact ⟨k + 1, by rw [HT.out, HQ.out], by go_num, by omega, trivial⟩
        case measure => simp [intOf]; omega
    · have hge' : ¬ (k : Int) < (N : Int) := by omega
      have hkN : k = N := by omega
      subst hkN
      rw [HP.out]
      have hpl : (pln s).length ≤ 1000 := by rw [pln_len, HN.out]; exact hs
      go_wp2
      go_ret
      exact ⟨str_ret (by first | rfl | (rw [show ∀ a b : List UInt8, bs (a ++ b) = bs a ++ bs b from fun a b => (bs_append a b).symm, show ∀ a b : List UInt8, bs (a ++ b) = bs a ++ bs b from fun a b => (bs_append a b).symm]; rfl)), rfl⟩
set_option maxRecDepth 100000 in
set_option maxHeartbeats 4000000 in
theorem reft_3 (s : List UInt8) (w : World) (hs : s.length ≤ 1000) :
    Calls Tryz.prog 10 #[.int .i64 3, .string (bs s)] w fun e w' => e = .returned (sv (tx 3 (pln s))) ∧ w = w' := by
  rw [tx_3]
  obtain ⟨N, hN⟩ : ∃ N, s.length = N := ⟨_, rfl⟩
  have HN := Lib.hid hN
  have HP : Hid ((pln s).take N = pln s) := Lib.hid (List.take_of_length_le (by rw [pln_len, hN]; exact Nat.le_refl _))
  rw [hN] at hs
  have hsz : (bs s).size = N := by rw [bs_size]; exact hN
  clear hN
  go_enter Tryz.func10, Tryz.ntmps10
  go_wp2_with fail
  go_loopw [5, 6] (fun x y wr => ∃ k, x = sv ((pln s).take k) ∧ y = .int .i64 (k : Nat) ∧ k ≤ N ∧ wr = w) (fun x y _ => N - (intOf y).toNat)
  case atStart => exact ⟨0, rfl, rfl, by omega, rfl⟩
  case round =>
    obtain ⟨k, rfl, rfl, hk, rfl⟩ := hrel
    rcases Nat.lt_or_ge k N with hlt | hge
    · have hkl : k < s.length := by rw [HN.out]; exact hlt
      have hlt' : (k : Int) < (N : Int) := by omega
      have htk : (pln s).take (k + 1) = (pln s).take k ++ [qm s[k]] := by
        rw [List.take_add_one, pln_get s k hkl]; rfl
      have hg1 : (bs s)[k]'(by rw [bs_size]; omega) = s[k] := bs_get' s k (by rw [bs_size]; omega) hkl
      have he := enc_ascii (qm s[k]) (by have := qm_range s[k]; omega)
      obtain ⟨d, hd⟩ : ∃ d, s[k] = d := ⟨_, rfl⟩
      rw [hd] at htk hg1 he
      obtain ⟨acc, hacc⟩ : ∃ acc, (pln s).take k = acc := ⟨_, rfl⟩
      rw [hacc] at htk ⊢
      have HT := Lib.hid htk
      have HA := Lib.hid hacc
      have hal : acc.length = k := by rw [← hacc, List.length_take, pln_len]; omega
      have hadd : ∀ w, (Op.stringOp .add (bs acc) (bs [qm d])).run Tryz.prog w = .ok (sv (acc ++ [qm d])) w := fun w => (run_string_add_sum w _ _ (by simp; omega)).trans (by rw [bs_append])
      have i0 : (0 : Int) ≤ (k : Int) := by omega
      clear htk hacc hd hal
      by_cases hb : d.toNat < 32 ∨ 126 < d.toNat ∨ d.toNat = 39
      · have hq2 : qm d = 63 := by unfold qm; rw [if_pos hb]
        have HQ := Lib.hid hq2
        rw [hq2] at hadd he
        have e63 : Utf8.encode 63 = bs [63] := he
        clear hq2 he
        rcases (show (d.toNat : Int) < 32 ∨ (¬ (d.toNat : Int) < 32 ∧ (126 : Int) < d.toNat) ∨ (¬ (d.toNat : Int) < 32 ∧ ¬ (126 : Int) < d.toNat ∧ d = 39) by
            rcases hb with h | h | h
            · omega
            · omega
            · refine .inr (.inr ⟨by omega, by omega, UInt8.toNat_inj.1 (by rw [h]; rfl)⟩)) with h1 | ⟨h1, h2⟩ | ⟨h1, h2, h3⟩
        all_goals
          clear hb
          try subst h3
          go_wp2_with fail
          go_roundw
          case rel => exact ⟨k + 1, by rw [HT.out, HQ.out], by go_num, by omega, trivial⟩
          case measure => simp [intOf]; omega
      · have hq2 : qm d = d := by unfold qm; rw [if_neg hb]
        have HQ := Lib.hid hq2
        rw [hq2] at hadd he
        have h1 : ¬ (d.toNat : Int) < 32 := by omega
        have h2 : ¬ (126 : Int) < (d.toNat : Int) := by omega
        have h3 : ((d.toNat : Int) == 39) = false := by rw [beq_eq_false_iff_ne]; omega
        clear hq2 hb
        go_wp2_with fail
        go_roundw
        case rel => exact ⟨k + 1, by rw [HT.out, HQ.out], by go_num, by omega, trivial⟩
        case measure => simp [intOf]; omega
    · have hge' : ¬ (k : Int) < (N : Int) := by omega
      have hkN : k = N := by omega
      subst hkN
      rw [HP.out]
      have hpl : (pln s).length ≤ 1000 := by rw [pln_len, HN.out]; exact hs
      go_wp2
      go_ret
      exact ⟨str_ret (by first | rfl | (rw [show ∀ a b : List UInt8, bs (a ++ b) = bs a ++ bs b from fun a b => (bs_append a b).symm, show ∀ a b : List UInt8, bs (a ++ b) = bs a ++ bs b from fun a b => (bs_append a b).symm]; rfl)), rfl⟩
set_option maxRecDepth 100000 in
set_option maxHeartbeats 4000000 in
theorem reft_4 (s : List UInt8) (w : World) (hs : s.length ≤ 1000) :
    Calls Tryz.prog 10 #[.int .i64 4, .string (bs s)] w fun e w' => e = .returned (sv (tx 4 (pln s))) ∧ w = w' := by
  rw [tx_4]
  obtain ⟨N, hN⟩ : ∃ N, s.length = N := ⟨_, rfl⟩
  have HN := Lib.hid hN
  have HP : Hid ((pln s).take N = pln s) := Lib.hid (List.take_of_length_le (by rw [pln_len, hN]; exact Nat.le_refl _))
  rw [hN] at hs
  have hsz : (bs s).size = N := by rw [bs_size]; exact hN
  clear hN
  go_enter Tryz.func10, Tryz.ntmps10
  go_wp2_with fail
  go_loopw [5, 6] (fun x y wr => ∃ k, x = sv ((pln s).take k) ∧ y = .int .i64 (k : Nat) ∧ k ≤ N ∧ wr = w) (fun x y _ => N - (intOf y).toNat)
  case atStart => exact ⟨0, rfl, rfl, by omega, rfl⟩
  case round =>
    obtain ⟨k, rfl, rfl, hk, rfl⟩ := hrel
    rcases Nat.lt_or_ge k N with hlt | hge
    · have hkl : k < s.length := by rw [HN.out]; exact hlt
      have hlt' : (k : Int) < (N : Int) := by omega
      have htk : (pln s).take (k + 1) = (pln s).take k ++ [qm s[k]] := by
        rw [List.take_add_one, pln_get s k hkl]; rfl
      have hg1 : (bs s)[k]'(by rw [bs_size]; omega) = s[k] := bs_get' s k (by rw [bs_size]; omega) hkl
      have he := enc_ascii (qm s[k]) (by have := qm_range s[k]; omega)
      obtain ⟨d, hd⟩ : ∃ d, s[k] = d := ⟨_, rfl⟩
      rw [hd] at htk hg1 he
      obtain ⟨acc, hacc⟩ : ∃ acc, (pln s).take k = acc := ⟨_, rfl⟩
      rw [hacc] at htk ⊢
      have HT := Lib.hid htk
      have HA := Lib.hid hacc
      have hal : acc.length = k := by rw [← hacc, List.length_take, pln_len]; omega
      have hadd : ∀ w, (Op.stringOp .add (bs acc) (bs [qm d])).run Tryz.prog w = .ok (sv (acc ++ [qm d])) w := fun w => (run_string_add_sum w _ _ (by simp; omega)).trans (by rw [bs_append])
      have i0 : (0 : Int) ≤ (k : Int) := by omega
      clear htk hacc hd hal
      by_cases hb : d.toNat < 32 ∨ 126 < d.toNat ∨ d.toNat = 39
      · have hq2 : qm d = 63 := by unfold qm; rw [if_pos hb]
        have HQ := Lib.hid hq2
        rw [hq2] at hadd he
        have e63 : Utf8.encode 63 = bs [63] := he
        clear hq2 he
        rcases (show (d.toNat : Int) < 32 ∨ (¬ (d.toNat : Int) < 32 ∧ (126 : Int) < d.toNat) ∨ (¬ (d.toNat : Int) < 32 ∧ ¬ (126 : Int) < d.toNat ∧ d = 39) by
            rcases hb with h | h | h
            · omega
            · omega
            · refine .inr (.inr ⟨by omega, by omega, UInt8.toNat_inj.1 (by rw [h]; rfl)⟩)) with h1 | ⟨h1, h2⟩ | ⟨h1, h2, h3⟩
        all_goals
          clear hb
          try subst h3
          go_wp2_with fail
          go_roundw
          case rel => exact ⟨k + 1, by rw [HT.out, HQ.out], by go_num, by omega, trivial⟩
          case measure => simp [intOf]; omega
      · have hq2 : qm d = d := by unfold qm; rw [if_neg hb]
        have HQ := Lib.hid hq2
        rw [hq2] at hadd he
        have h1 : ¬ (d.toNat : Int) < 32 := by omega
        have h2 : ¬ (126 : Int) < (d.toNat : Int) := by omega
        have h3 : ((d.toNat : Int) == 39) = false := by rw [beq_eq_false_iff_ne]; omega
        clear hq2 hb
        go_wp2_with fail
        go_roundw
        case rel => exact ⟨k + 1, by rw [HT.out, HQ.out], by go_num, by omega, trivial⟩
        case measure => simp [intOf]; omega
    · have hge' : ¬ (k : Int) < (N : Int) := by omega
      have hkN : k = N := by omega
      subst hkN
      rw [HP.out]
      have hpl : (pln s).length ≤ 1000 := by rw [pln_len, HN.out]; exact hs
      go_wp2
      go_ret
      exact ⟨str_ret (by first | rfl | (rw [show ∀ a b : List UInt8, bs (a ++ b) = bs a ++ bs b from fun a b => (bs_append a b).symm, show ∀ a b : List UInt8, bs (a ++ b) = bs a ++ bs b from fun a b => (bs_append a b).symm]; rfl)), rfl⟩
set_option maxRecDepth 100000 in
set_option maxHeartbeats 4000000 in
theorem reft_5 (s : List UInt8) (w : World) (hs : s.length ≤ 1000) :
    Calls Tryz.prog 10 #[.int .i64 5, .string (bs s)] w fun e w' => e = .returned (sv (tx 5 (pln s))) ∧ w = w' := by
  rw [tx_5]
  obtain ⟨N, hN⟩ : ∃ N, s.length = N := ⟨_, rfl⟩
  have HN := Lib.hid hN
  have HP : Hid ((pln s).take N = pln s) := Lib.hid (List.take_of_length_le (by rw [pln_len, hN]; exact Nat.le_refl _))
  rw [hN] at hs
  have hsz : (bs s).size = N := by rw [bs_size]; exact hN
  clear hN
  go_enter Tryz.func10, Tryz.ntmps10
  go_wp2_with fail
  go_loopw [5, 6] (fun x y wr => ∃ k, x = sv ((pln s).take k) ∧ y = .int .i64 (k : Nat) ∧ k ≤ N ∧ wr = w) (fun x y _ => N - (intOf y).toNat)
  case atStart => exact ⟨0, rfl, rfl, by omega, rfl⟩
  case round =>
    obtain ⟨k, rfl, rfl, hk, rfl⟩ := hrel
    rcases Nat.lt_or_ge k N with hlt | hge
    · have hkl : k < s.length := by rw [HN.out]; exact hlt
      have hlt' : (k : Int) < (N : Int) := by omega
      have htk : (pln s).take (k + 1) = (pln s).take k ++ [qm s[k]] := by
        rw [List.take_add_one, pln_get s k hkl]; rfl
      have hg1 : (bs s)[k]'(by rw [bs_size]; omega) = s[k] := bs_get' s k (by rw [bs_size]; omega) hkl
      have he := enc_ascii (qm s[k]) (by have := qm_range s[k]; omega)
      obtain ⟨d, hd⟩ : ∃ d, s[k] = d := ⟨_, rfl⟩
      rw [hd] at htk hg1 he
      obtain ⟨acc, hacc⟩ : ∃ acc, (pln s).take k = acc := ⟨_, rfl⟩
      rw [hacc] at htk ⊢
      have HT := Lib.hid htk
      have HA := Lib.hid hacc
      have hal : acc.length = k := by rw [← hacc, List.length_take, pln_len]; omega
      have hadd : ∀ w, (Op.stringOp .add (bs acc) (bs [qm d])).run Tryz.prog w = .ok (sv (acc ++ [qm d])) w := fun w => (run_string_add_sum w _ _ (by simp; omega)).trans (by rw [bs_append])
      have i0 : (0 : Int) ≤ (k : Int) := by omega
      clear htk hacc hd hal
      by_cases hb : d.toNat < 32 ∨ 126 < d.toNat ∨ d.toNat = 39
      · have hq2 : qm d = 63 := by unfold qm; rw [if_pos hb]
        have HQ := Lib.hid hq2
        rw [hq2] at hadd he
        have e63 : Utf8.encode 63 = bs [63] := he
        clear hq2 he
        rcases (show (d.toNat : Int) < 32 ∨ (¬ (d.toNat : Int) < 32 ∧ (126 : Int) < d.toNat) ∨ (¬ (d.toNat : Int) < 32 ∧ ¬ (126 : Int) < d.toNat ∧ d = 39) by
            rcases hb with h | h | h
            · omega
            · omega
            · refine .inr (.inr ⟨by omega, by omega, UInt8.toNat_inj.1 (by rw [h]; rfl)⟩)) with h1 | ⟨h1, h2⟩ | ⟨h1, h2, h3⟩
        all_goals
          clear hb
          try subst h3
          go_wp2_with fail
          go_roundw
          case rel => exact ⟨k + 1, by rw [HT.out, HQ.out], by go_num, by omega, trivial⟩
          case measure => simp [intOf]; omega
      · have hq2 : qm d = d := by unfold qm; rw [if_neg hb]
        have HQ := Lib.hid hq2
        rw [hq2] at hadd he
        have h1 : ¬ (d.toNat : Int) < 32 := by omega
        have h2 : ¬ (126 : Int) < (d.toNat : Int) := by omega
        have h3 : ((d.toNat : Int) == 39) = false := by rw [beq_eq_false_iff_ne]; omega
        clear hq2 hb
        go_wp2_with fail
        go_roundw
        case rel => exact ⟨k + 1, by rw [HT.out, HQ.out], by go_num, by omega, trivial⟩
        case measure => simp [intOf]; omega
    · have hge' : ¬ (k : Int) < (N : Int) := by omega
      have hkN : k = N := by omega
      subst hkN
      rw [HP.out]
      have hpl : (pln s).length ≤ 1000 := by rw [pln_len, HN.out]; exact hs
      go_wp2
      go_ret
      exact ⟨str_ret (by first | rfl | (rw [show ∀ a b : List UInt8, bs (a ++ b) = bs a ++ bs b from fun a b => (bs_append a b).symm, show ∀ a b : List UInt8, bs (a ++ b) = bs a ++ bs b from fun a b => (bs_append a b).symm]; rfl)), rfl⟩
set_option maxRecDepth 100000 in
set_option maxHeartbeats 4000000 in
theorem reft_6 (s : List UInt8) (w : World) (hs : s.length ≤ 1000) :
    Calls Tryz.prog 10 #[.int .i64 6, .string (bs s)] w fun e w' => e = .returned (sv (tx 6 (pln s))) ∧ w = w' := by
  rw [tx_6]
  obtain ⟨N, hN⟩ : ∃ N, s.length = N := ⟨_, rfl⟩
  have HN := Lib.hid hN
  have HP : Hid ((pln s).take N = pln s) := Lib.hid (List.take_of_length_le (by rw [pln_len, hN]; exact Nat.le_refl _))
  rw [hN] at hs
  have hsz : (bs s).size = N := by rw [bs_size]; exact hN
  clear hN
  go_enter Tryz.func10, Tryz.ntmps10
  go_wp2_with fail
  go_loopw [5, 6] (fun x y wr => ∃ k, x = sv ((pln s).take k) ∧ y = .int .i64 (k : Nat) ∧ k ≤ N ∧ wr = w) (fun x y _ => N - (intOf y).toNat)
  case atStart => exact ⟨0, rfl, rfl, by omega, rfl⟩
  case round =>
    obtain ⟨k, rfl, rfl, hk, rfl⟩ := hrel
    rcases Nat.lt_or_ge k N with hlt | hge
    · have hkl : k < s.length := by rw [HN.out]; exact hlt
      have hlt' : (k : Int) < (N : Int) := by omega
      have htk : (pln s).take (k + 1) = (pln s).take k ++ [qm s[k]] := by
        rw [List.take_add_one, pln_get s k hkl]; rfl
      have hg1 : (bs s)[k]'(by rw [bs_size]; omega) = s[k] := bs_get' s k (by rw [bs_size]; omega) hkl
      have he := enc_ascii (qm s[k]) (by have := qm_range s[k]; omega)
      obtain ⟨d, hd⟩ : ∃ d, s[k] = d := ⟨_, rfl⟩
      rw [hd] at htk hg1 he
      obtain ⟨acc, hacc⟩ : ∃ acc, (pln s).take k = acc := ⟨_, rfl⟩
      rw [hacc] at htk ⊢
      have HT := Lib.hid htk
      have HA := Lib.hid hacc
      have hal : acc.length = k := by rw [← hacc, List.length_take, pln_len]; omega
      have hadd : ∀ w, (Op.stringOp .add (bs acc) (bs [qm d])).run Tryz.prog w = .ok (sv (acc ++ [qm d])) w := fun w => (run_string_add_sum w _ _ (by simp; omega)).trans (by rw [bs_append])
      have i0 : (0 : Int) ≤ (k : Int) := by omega
      clear htk hacc hd hal
      by_cases hb : d.toNat < 32 ∨ 126 < d.toNat ∨ d.toNat = 39
      · have hq2 : qm d = 63 := by unfold qm; rw [if_pos hb]
        have HQ := Lib.hid hq2
        rw [hq2] at hadd he
        have e63 : Utf8.encode 63 = bs [63] := he
        clear hq2 he
        rcases (show (d.toNat : Int) < 32 ∨ (¬ (d.toNat : Int) < 32 ∧ (126 : Int) < d.toNat) ∨ (¬ (d.toNat : Int) < 32 ∧ ¬ (126 : Int) < d.toNat ∧ d = 39) by
            rcases hb with h | h | h
            · omega
            · omega
            · refine .inr (.inr ⟨by omega, by omega, UInt8.toNat_inj.1 (by rw [h]; rfl)⟩)) with h1 | ⟨h1, h2⟩ | ⟨h1, h2, h3⟩
        all_goals
          clear hb
          try subst h3
          go_wp2_with fail
          go_roundw
          case rel => exact ⟨k + 1, by rw [HT.out, HQ.out], by go_num, by omega, trivial⟩
          case measure => simp [intOf]; omega
      · have hq2 : qm d = d := by unfold qm; rw [if_neg hb]
        have HQ := Lib.hid hq2
        rw [hq2] at hadd he
        have h1 : ¬ (d.toNat : Int) < 32 := by omega
        have h2 : ¬ (126 : Int) < (d.toNat : Int) := by omega
        have h3 : ((d.toNat : Int) == 39) = false := by rw [beq_eq_false_iff_ne]; omega
        clear hq2 hb
        go_wp2_with fail
        go_roundw
        case rel => exact ⟨k + 1, by rw [HT.out, HQ.out], by go_num, by omega, trivial⟩
        case measure => simp [intOf]; omega
    · have hge' : ¬ (k : Int) < (N : Int) := by omega
      have hkN : k = N := by omega
      subst hkN
      rw [HP.out]
      have hpl : (pln s).length ≤ 1000 := by rw [pln_len, HN.out]; exact hs
      go_wp2
      go_ret
      exact ⟨str_ret (by first | rfl | (rw [show ∀ a b : List UInt8, bs (a ++ b) = bs a ++ bs b from fun a b => (bs_append a b).symm, show ∀ a b : List UInt8, bs (a ++ b) = bs a ++ bs b from fun a b => (bs_append a b).symm]; rfl)), rfl⟩
set_option maxRecDepth 100000 in
set_option maxHeartbeats 4000000 in
theorem reft_7 (s : List UInt8) (w : World) (hs : s.length ≤ 1000) :
    Calls Tryz.prog 10 #[.int .i64 7, .string (bs s)] w fun e w' => e = .returned (sv (tx 7 (pln s))) ∧ w = w' := by
  rw [tx_7]
  obtain ⟨N, hN⟩ : ∃ N, s.length = N := ⟨_, rfl⟩
  have HN := Lib.hid hN
  have HP : Hid ((pln s).take N = pln s) := Lib.hid (List.take_of_length_le (by rw [pln_len, hN]; exact Nat.le_refl _))
  rw [hN] at hs
  have hsz : (bs s).size = N := by rw [bs_size]; exact hN
  clear hN
  go_enter Tryz.func10, Tryz.ntmps10
  go_wp2_with fail
  go_loopw [5, 6] (fun x y wr => ∃ k, x = sv ((pln s).take k) ∧ y = .int .i64 (k : Nat) ∧ k ≤ N ∧ wr = w) (fun x y _ => N - (intOf y).toNat)
  case atStart => exact ⟨0, rfl, rfl, by omega, rfl⟩
  case round =>
    obtain ⟨k, rfl, rfl, hk, rfl⟩ := hrel
    rcases Nat.lt_or_ge k N with hlt | hge
    · have hkl : k < s.length := by rw [HN.out]; exact hlt
      have hlt' : (k : Int) < (N : Int) := by omega
      have htk : (pln s).take (k + 1) = (pln s).take k ++ [qm s[k]] := by
        rw [List.take_add_one, pln_get s k hkl]; rfl
      have hg1 : (bs s)[k]'(by rw [bs_size]; omega) = s[k] := bs_get' s k (by rw [bs_size]; omega) hkl
      have he := enc_ascii (qm s[k]) (by have := qm_range s[k]; omega)
      obtain ⟨d, hd⟩ : ∃ d, s[k] = d := ⟨_, rfl⟩
      rw [hd] at htk hg1 he
      obtain ⟨acc, hacc⟩ : ∃ acc, (pln s).take k = acc := ⟨_, rfl⟩
      rw [hacc] at htk ⊢
      have HT := Lib.hid htk
      have HA := Lib.hid hacc
      have hal : acc.length = k := by rw [← hacc, List.length_take, pln_len]; omega
      have hadd : ∀ w, (Op.stringOp .add (bs acc) (bs [qm d])).run Tryz.prog w = .ok (sv (acc ++ [qm d])) w := fun w => (run_string_add_sum w _ _ (by simp; omega)).trans (by rw [bs_append])
      have i0 : (0 : Int) ≤ (k : Int) := by omega
      clear htk hacc hd hal
      by_cases hb : d.toNat < 32 ∨ 126 < d.toNat ∨ d.toNat = 39
      · have hq2 : qm d = 63 := by unfold qm; rw [if_pos hb]
        have HQ := Lib.hid hq2
        rw [hq2] at hadd he
        have e63 : Utf8.encode 63 = bs [63] := he
        clear hq2 he
        rcases (show (d.toNat : Int) < 32 ∨ (¬ (d.toNat : Int) < 32 ∧ (126 : Int) < d.toNat) ∨ (¬ (d.toNat : Int) < 32 ∧ ¬ (126 : Int) < d.toNat ∧ d = 39) by
            rcases hb with h | h | h
            · omega
            · omega
            · refine .inr (.inr ⟨by omega, by omega, UInt8.toNat_inj.1 (by rw [h]; rfl)⟩)) with h1 | ⟨h1, h2⟩ | ⟨h1, h2, h3⟩
        all_goals
          clear hb
          try subst h3
          go_wp2_with fail
          go_roundw
          case rel => exact ⟨k + 1, by rw [HT.out, HQ.out], by go_num, by omega, trivial⟩
          case measure => simp [intOf]; omega
      · have hq2 : qm d = d := by unfold qm; rw [if_neg hb]
        have HQ := Lib.hid hq2
        rw [hq2] at hadd he
        have h1 : ¬ (d.toNat : Int) < 32 := by omega
        have h2 : ¬ (126 : Int) < (d.toNat : Int) := by omega
        have h3 : ((d.toNat : Int) == 39) = false := by rw [beq_eq_false_iff_ne]; omega
        clear hq2 hb
        go_wp2_with fail
        go_roundw
        case rel => exact ⟨k + 1, by rw [HT.out, HQ.out], by go_num, by omega, trivial⟩
        case measure => simp [intOf]; omega
    · have hge' : ¬ (k : Int) < (N : Int) := by omega
      have hkN : k = N := by omega
      subst hkN
      rw [HP.out]
      have hpl : (pln s).length ≤ 1000 := by rw [pln_len, HN.out]; exact hs
      go_wp2
      go_ret
      exact ⟨str_ret (by first | rfl | (rw [show ∀ a b : List UInt8, bs (a ++ b) = bs a ++ bs b from fun a b => (bs_append a b).symm, show ∀ a b : List UInt8, bs (a ++ b) = bs a ++ bs b from fun a b => (bs_append a b).symm]; rfl)), rfl⟩
set_option maxRecDepth 100000 in
set_option maxHeartbeats 4000000 in
theorem reft_8 (s : List UInt8) (w : World) (hs : s.length ≤ 1000) :
    Calls Tryz.prog 10 #[.int .i64 8, .string (bs s)] w fun e w' => e = .returned (sv (tx 8 (pln s))) ∧ w = w' := by
  rw [tx_8]
  obtain ⟨N, hN⟩ : ∃ N, s.length = N := ⟨_, rfl⟩
  have HN := Lib.hid hN
  have HP : Hid ((pln s).take N = pln s) := Lib.hid (List.take_of_length_le (by rw [pln_len, hN]; exact Nat.le_refl _))
  rw [hN] at hs
  have hsz : (bs s).size = N := by rw [bs_size]; exact hN
  clear hN
  go_enter Tryz.func10, Tryz.ntmps10
  go_wp2_with fail
  go_loopw [5, 6] (fun x y wr => ∃ k, x = sv ((pln s).take k) ∧ y = .int .i64 (k : Nat) ∧ k ≤ N ∧ wr = w) (fun x y _ => N - (intOf y).toNat)
  case atStart => exact ⟨0, rfl, rfl, by omega, rfl⟩
  case round =>
    obtain ⟨k, rfl, rfl, hk, rfl⟩ := hrel
    rcases Nat.lt_or_ge k N with hlt | hge
    · have hkl : k < s.length := by rw [HN.out]; exact hlt
      have hlt' : (k : Int) < (N : Int) := by omega
      have htk : (pln s).take (k + 1) = (pln s).take k ++ [qm s[k]] := by
        rw [List.take_add_one, pln_get s k hkl]; rfl
      have hg1 : (bs s)[k]'(by rw [bs_size]; omega) = s[k] := bs_get' s k (by rw [bs_size]; omega) hkl
      have he := enc_ascii (qm s[k]) (by have := qm_range s[k]; omega)
      obtain ⟨d, hd⟩ : ∃ d, s[k] = d := ⟨_, rfl⟩
      rw [hd] at htk hg1 he
      obtain ⟨acc, hacc⟩ : ∃ acc, (pln s).take k = acc := ⟨_, rfl⟩
      rw [hacc] at htk ⊢
      have HT := Lib.hid htk
      have HA := Lib.hid hacc
      have hal : acc.length = k := by rw [← hacc, List.length_take, pln_len]; omega
      have hadd : ∀ w, (Op.stringOp .add (bs acc) (bs [qm d])).run Tryz.prog w = .ok (sv (acc ++ [qm d])) w := fun w => (run_string_add_sum w _ _ (by simp; omega)).trans (by rw [bs_append])
      have i0 : (0 : Int) ≤ (k : Int) := by omega
      clear htk hacc hd hal
      by_cases hb : d.toNat < 32 ∨ 126 < d.toNat ∨ d.toNat = 39
      · have hq2 : qm d = 63 := by unfold qm; rw [if_pos hb]
        have HQ := Lib.hid hq2
        rw [hq2] at hadd he
        have e63 : Utf8.encode 63 = bs [63] := he
        clear hq2 he
        rcases (show (d.toNat : Int) < 32 ∨ (¬ (d.toNat : Int) < 32 ∧ (126 : Int) < d.toNat) ∨ (¬ (d.toNat : Int) < 32 ∧ ¬ (126 : Int) < d.toNat ∧ d = 39) by
            rcases hb with h | h | h
            · omega
            · omega
            · refine .inr (.inr ⟨by omega, by omega, UInt8.toNat_inj.1 (by rw [h]; rfl)⟩)) with h1 | ⟨h1, h2⟩ | ⟨h1, h2, h3⟩
        all_goals
          clear hb
          try subst h3
          go_wp2_with fail
          go_roundw
          case rel => exact ⟨k + 1, by rw [HT.out, HQ.out], by go_num, by omega, trivial⟩
          case measure => simp [intOf]; omega
      · have hq2 : qm d = d := by unfold qm; rw [if_neg hb]
        have HQ := Lib.hid hq2
        rw [hq2] at hadd he
        have h1 : ¬ (d.toNat : Int) < 32 := by omega
        have h2 : ¬ (126 : Int) < (d.toNat : Int) := by omega
        have h3 : ((d.toNat : Int) == 39) = false := by rw [beq_eq_false_iff_ne]; omega
        clear hq2 hb
        go_wp2_with fail
        go_roundw
        case rel => exact ⟨k + 1, by rw [HT.out, HQ.out], by go_num, by omega, trivial⟩
        case measure => simp [intOf]; omega
    · have hge' : ¬ (k : Int) < (N : Int) := by omega
      have hkN : k = N := by omega
      subst hkN
      rw [HP.out]
      have hpl : (pln s).length ≤ 1000 := by rw [pln_len, HN.out]; exact hs
      go_wp2
      go_ret
      exact ⟨str_ret (by first | rfl | (rw [show ∀ a b : List UInt8, bs (a ++ b) = bs a ++ bs b from fun a b => (bs_append a b).symm, show ∀ a b : List UInt8, bs (a ++ b) = bs a ++ bs b from fun a b => (bs_append a b).symm]; rfl)), rfl⟩
set_option maxRecDepth 100000 in
set_option maxHeartbeats 4000000 in
theorem reft_9 (s : List UInt8) (w : World) (hs : s.length ≤ 1000) :
    Calls Tryz.prog 10 #[.int .i64 9, .string (bs s)] w fun e w' => e = .returned (sv (tx 9 (pln s))) ∧ w = w' := by
  rw [tx_9]
  obtain ⟨N, hN⟩ : ∃ N, s.length = N := ⟨_, rfl⟩
  have HN := Lib.hid hN
  have HP : Hid ((pln s).take N = pln s) := Lib.hid (List.take_of_length_le (by rw [pln_len, hN]; exact Nat.le_refl _))
  rw [hN] at hs
  have hsz : (bs s).size = N := by rw [bs_size]; exact hN
  clear hN
  go_enter Tryz.func10, Tryz.ntmps10
  go_wp2_with fail
  go_loopw [5, 6] (fun x y wr => ∃ k, x = sv ((pln s).take k) ∧ y = .int .i64 (k : Nat) ∧ k ≤ N ∧ wr = w) (fun x y _ => N - (intOf y).toNat)
  case atStart => exact ⟨0, rfl, rfl, by omega, rfl⟩
  case round =>
    obtain ⟨k, rfl, rfl, hk, rfl⟩ := hrel
    rcases Nat.lt_or_ge k N with hlt | hge
    · have hkl : k < s.length := by rw [HN.out]; exact hlt
      have hlt' : (k : Int) < (N : Int) := by omega
      have htk : (pln s).take (k + 1) = (pln s).take k ++ [qm s[k]] := by
        rw [List.take_add_one, pln_get s k hkl]; rfl
      have hg1 : (bs s)[k]'(by rw [bs_size]; omega) = s[k] := bs_get' s k (by rw [bs_size]; omega) hkl
      have he := enc_ascii (qm s[k]) (by have := qm_range s[k]; omega)
      obtain ⟨d, hd⟩ : ∃ d, s[k] = d := ⟨_, rfl⟩
      rw [hd] at htk hg1 he
      obtain ⟨acc, hacc⟩ : ∃ acc, (pln s).take k = acc := ⟨_, rfl⟩
      rw [hacc] at htk ⊢
      have HT := Lib.hid htk
      have HA := Lib.hid hacc
      have hal : acc.length = k := by rw [← hacc, List.length_take, pln_len]; omega
      have hadd : ∀ w, (Op.stringOp .add (bs acc) (bs [qm d])).run Tryz.prog w = .ok (sv (acc ++ [qm d])) w := fun w => (run_string_add_sum w _ _ (by simp; omega)).trans (by rw [bs_append])
      have i0 : (0 : Int) ≤ (k : Int) := by omega
      clear htk hacc hd hal
      by_cases hb : d.toNat < 32 ∨ 126 < d.toNat ∨ d.toNat = 39
      · have hq2 : qm d = 63 := by unfold qm; rw [if_pos hb]
        have HQ := Lib.hid hq2
        rw [hq2] at hadd he
        have e63 : Utf8.encode 63 = bs [63] := he
        clear hq2 he
        rcases (show (d.toNat : Int) < 32 ∨ (¬ (d.toNat : Int) < 32 ∧ (126 : Int) < d.toNat) ∨ (¬ (d.toNat : Int) < 32 ∧ ¬ (126 : Int) < d.toNat ∧ d = 39) by
            rcases hb with h | h | h
            · omega
            · omega
            · refine .inr (.inr ⟨by omega, by omega, UInt8.toNat_inj.1 (by rw [h]; rfl)⟩)) with h1 | ⟨h1, h2⟩ | ⟨h1, h2, h3⟩
        all_goals
          clear hb
          try subst h3
          go_wp2_with fail
          go_roundw
          case rel => exact ⟨k + 1, by rw [HT.out, HQ.out], by go_num, by omega, trivial⟩
          case measure => simp [intOf]; omega
      · have hq2 : qm d = d := by unfold qm; rw [if_neg hb]
        have HQ := Lib.hid hq2
        rw [hq2] at hadd he
        have h1 : ¬ (d.toNat : Int) < 32 := by omega
        have h2 : ¬ (126 : Int) < (d.toNat : Int) := by omega
        have h3 : ((d.toNat : Int) == 39) = false := by rw [beq_eq_false_iff_ne]; omega
        clear hq2 hb
        go_wp2_with fail
        go_roundw
        case rel => exact ⟨k + 1, by rw [HT.out, HQ.out], by go_num, by omega, trivial⟩
        case measure => simp [intOf]; omega
    · have hge' : ¬ (k : Int) < (N : Int) := by omega
      have hkN : k = N := by omega
      subst hkN
      rw [HP.out]
      have hpl : (pln s).length ≤ 1000 := by rw [pln_len, HN.out]; exact hs
      go_wp2
      go_ret
      exact ⟨str_ret (by first | rfl | (rw [show ∀ a b : List UInt8, bs (a ++ b) = bs a ++ bs b from fun a b => (bs_append a b).symm, show ∀ a b : List UInt8, bs (a ++ b) = bs a ++ bs b from fun a b => (bs_append a b).symm]; rfl)), rfl⟩
set_option maxRecDepth 100000 in
set_option maxHeartbeats 4000000 in
theorem reft_10 (s : List UInt8) (w : World) (hs : s.length ≤ 1000) :
    Calls Tryz.prog 10 #[.int .i64 10, .string (bs s)] w fun e w' => e = .returned (sv (tx 10 (pln s))) ∧ w = w' := by
  rw [tx_10]
  obtain ⟨N, hN⟩ : ∃ N, s.length = N := ⟨_, rfl⟩
  have HN := Lib.hid hN
  have HP : Hid ((pln s).take N = pln s) := Lib.hid (List.take_of_length_le (by rw [pln_len, hN]; exact Nat.le_refl _))
  rw [hN] at hs
  have hsz : (bs s).size = N := by rw [bs_size]; exact hN
  clear hN
  go_enter Tryz.func10, Tryz.ntmps10
  go_wp2_with fail
  go_loopw [5, 6] (fun x y wr => ∃ k, x = sv ((pln s).take k) ∧ y = .int .i64 (k : Nat) ∧ k ≤ N ∧ wr = w) (fun x y _ => N - (intOf y).toNat)
  case atStart => exact ⟨0, rfl, rfl, by omega, rfl⟩
  case round =>
    obtain ⟨k, rfl, rfl, hk, rfl⟩ := hrel
    rcases Nat.lt_or_ge k N with hlt | hge
    · have hkl : k < s.length := by rw [HN.out]; exact hlt
      have hlt' : (k : Int) < (N : Int) := by omega
      have htk : (pln s).take (k + 1) = (pln s).take k ++ [qm s[k]] := by
        rw [List.take_add_one, pln_get s k hkl]; rfl
      have hg1 : (bs s)[k]'(by rw [bs_size]; omega) = s[k] := bs_get' s k (by rw [bs_size]; omega) hkl
      have he := enc_ascii (qm s[k]) (by have := qm_range s[k]; omega)
      obtain ⟨d, hd⟩ : ∃ d, s[k] = d := ⟨_, rfl⟩
      rw [hd] at htk hg1 he
      obtain ⟨acc, hacc⟩ : ∃ acc, (pln s).take k = acc := ⟨_, rfl⟩
      rw [hacc] at htk ⊢
      have HT := Lib.hid htk
      have HA := Lib.hid hacc
      have hal : acc.length = k := by rw [← hacc, List.length_take, pln_len]; omega
      have hadd : ∀ w, (Op.stringOp .add (bs acc) (bs [qm d])).run Tryz.prog w = .ok (sv (acc ++ [qm d])) w := fun w => (run_string_add_sum w _ _ (by simp; omega)).trans (by rw [bs_append])
      have i0 : (0 : Int) ≤ (k : Int) := by omega
      clear htk hacc hd hal
      by_cases hb : d.toNat < 32 ∨ 126 < d.toNat ∨ d.toNat = 39
      · have hq2 : qm d = 63 := by unfold qm; rw [if_pos hb]
        have HQ := Lib.hid hq2
        rw [hq2] at hadd he
        have e63 : Utf8.encode 63 = bs [63] := he
        clear hq2 he
        rcases (show (d.toNat : Int) < 32 ∨ (¬ (d.toNat : Int) < 32 ∧ (126 : Int) < d.toNat) ∨ (¬ (d.toNat : Int) < 32 ∧ ¬ (126 : Int) < d.toNat ∧ d = 39) by
            rcases hb with h | h | h
            · omega
            · omega
            · refine .inr (.inr ⟨by omega, by omega, UInt8.toNat_inj.1 (by rw [h]; rfl)⟩)) with h1 | ⟨h1, h2⟩ | ⟨h1, h2, h3⟩
        all_goals
          clear hb
          try subst h3
          go_wp2_with fail
          go_roundw
          case rel => exact ⟨k + 1, by rw [HT.out, HQ.out], by go_num, by omega, trivial⟩
          case measure => simp [intOf]; omega
      · have hq2 : qm d = d := by unfold qm; rw [if_neg hb]
        have HQ := Lib.hid hq2
        rw [hq2] at hadd he
        have h1 : ¬ (d.toNat : Int) < 32 := by omega
        have h2 : ¬ (126 : Int) < (d.toNat : Int) := by omega
        have h3 : ((d.toNat : Int) == 39) = false := by rw [beq_eq_false_iff_ne]; omega
        clear hq2 hb
        go_wp2_with fail
        go_roundw
        case rel => exact ⟨k + 1, by rw [HT.out, HQ.out], by go_num, by omega, trivial⟩
        case measure => simp [intOf]; omega
    · have hge' : ¬ (k : Int) < (N : Int) := by omega
      have hkN : k = N := by omega
      subst hkN
      rw [HP.out]
      have hpl : (pln s).length ≤ 1000 := by rw [pln_len, HN.out]; exact hs
      go_wp2
      go_ret
      exact ⟨str_ret (by first | rfl | (rw [show ∀ a b : List UInt8, bs (a ++ b) = bs a ++ bs b from fun a b => (bs_append a b).symm, show ∀ a b : List UInt8, bs (a ++ b) = bs a ++ bs b from fun a b => (bs_append a b).symm]; rfl)), rfl⟩
set_option maxRecDepth 100000 in
set_option maxHeartbeats 4000000 in
theorem reft_11 (s : List UInt8) (w : World) (hs : s.length ≤ 1000) :
    Calls Tryz.prog 10 #[.int .i64 11, .string (bs s)] w fun e w' => e = .returned (sv (tx 11 (pln s))) ∧ w = w' := by
  rw [tx_11]
  obtain ⟨N, hN⟩ : ∃ N, s.length = N := ⟨_, rfl⟩
  have HN := Lib.hid hN
  have HP : Hid ((pln s).take N = pln s) := Lib.hid (List.take_of_length_le (by rw [pln_len, hN]; exact Nat.le_refl _))
  rw [hN] at hs
  have hsz : (bs s).size = N := by rw [bs_size]; exact hN
  clear hN
  go_enter Tryz.func10, Tryz.ntmps10
  go_wp2_with fail
  go_loopw [5, 6] (fun x y wr => ∃ k, x = sv ((pln s).take k) ∧ y = .int .i64 (k : Nat) ∧ k ≤ N ∧ wr = w) (fun x y _ => N - (intOf y).toNat)
  case atStart => exact ⟨0, rfl, rfl, by omega, rfl⟩
  case round =>
    obtain ⟨k, rfl, rfl, hk, rfl⟩ := hrel
    rcases Nat.lt_or_ge k N with hlt | hge
    · have hkl : k < s.length := by rw [HN.out]; exact hlt
      have hlt' : (k : Int) < (N : Int) := by omega
      have htk : (pln s).take (k + 1) = (pln s).take k ++ [qm s[k]] := by
        rw [List.take_add_one, pln_get s k hkl]; rfl
      have hg1 : (bs s)[k]'(by rw [bs_size]; omega) = s[k] := bs_get' s k (by rw [bs_size]; omega) hkl
      have he := enc_ascii (qm s[k]) (by have := qm_range s[k]; omega)
      obtain ⟨d, hd⟩ : ∃ d, s[k] = d := ⟨_, rfl⟩
      rw [hd] at htk hg1 he
      obtain ⟨acc, hacc⟩ : ∃ acc, (pln s).take k = acc := ⟨_, rfl⟩
      rw [hacc] at htk ⊢
      have HT := Lib.hid htk
      have HA := Lib.hid hacc
      have hal : acc.length = k := by rw [← hacc, List.length_take, pln_len]; omega
      have hadd : ∀ w, (Op.stringOp .add (bs acc) (bs [qm d])).run Tryz.prog w = .ok (sv (acc ++ [qm d])) w := fun w => (run_string_add_sum w _ _ (by simp; omega)).trans (by rw [bs_append])
      have i0 : (0 : Int) ≤ (k : Int) := by omega
      clear htk hacc hd hal
      by_cases hb : d.toNat < 32 ∨ 126 < d.toNat ∨ d.toNat = 39
      · have hq2 : qm d = 63 := by unfold qm; rw [if_pos hb]
        have HQ := Lib.hid hq2
        rw [hq2] at hadd he
        have e63 : Utf8.encode 63 = bs [63] := he
        clear hq2 he
        rcases (show (d.toNat : Int) < 32 ∨ (¬ (d.toNat : Int) < 32 ∧ (126 : Int) < d.toNat) ∨ (¬ (d.toNat : Int) < 32 ∧ ¬ (126 : Int) < d.toNat ∧ d = 39) by
            rcases hb with h | h | h
            · omega
            · omega
            · refine .inr (.inr ⟨by omega, by omega, UInt8.toNat_inj.1 (by rw [h]; rfl)⟩)) with h1 | ⟨h1, h2⟩ | ⟨h1, h2, h3⟩
        all_goals
          clear hb
          try subst h3
          go_wp2_with fail
          go_roundw
          case rel => exact ⟨k + 1, by rw [HT.out, HQ.out], by go_num, by omega, trivial⟩
          case measure => simp [intOf]; omega
      · have hq2 : qm d = d := by unfold qm; rw [if_neg hb]
        have HQ := Lib.hid hq2
        rw [hq2] at hadd he
        have h1 : ¬ (d.toNat : Int) < 32 := by omega
        have h2 : ¬ (126 : Int) < (d.toNat : Int) := by omega
        have h3 : ((d.toNat : Int) == 39) = false := by rw [beq_eq_false_iff_ne]; omega
        clear hq2 hb
        go_wp2_with fail
        go_roundw
        case rel => exact ⟨k + 1, by rw [HT.out, HQ.out], by go_num, by omega, trivial⟩
        case measure => simp [intOf]; omega
    · have hge' : ¬ (k : Int) < (N : Int) := by omega
      have hkN : k = N := by omega
      subst hkN
      rw [HP.out]
      have hpl : (pln s).length ≤ 1000 := by rw [pln_len, HN.out]; exact hs
      go_wp2
      go_ret
      exact ⟨str_ret (by first | rfl | (rw [show ∀ a b : List UInt8, bs (a ++ b) = bs a ++ bs b from fun a b => (bs_append a b).symm, show ∀ a b : List UInt8, bs (a ++ b) = bs a ++ bs b from fun a b => (bs_append a b).symm]; rfl)), rfl⟩
set_option maxRecDepth 100000 in
set_option maxHeartbeats 4000000 in
theorem reft_12 (s : List UInt8) (w : World) (hs : s.length ≤ 1000) :
    Calls Tryz.prog 10 #[.int .i64 12, .string (bs s)] w fun e w' => e = .returned (sv (tx 12 (pln s))) ∧ w = w' := by
  rw [tx_12]
  obtain ⟨N, hN⟩ : ∃ N, s.length = N := ⟨_, rfl⟩
  have HN := Lib.hid hN
  have HP : Hid ((pln s).take N = pln s) := Lib.hid (List.take_of_length_le (by rw [pln_len, hN]; exact Nat.le_refl _))
  rw [hN] at hs
  have hsz : (bs s).size = N := by rw [bs_size]; exact hN
  clear hN
  go_enter Tryz.func10, Tryz.ntmps10
  go_wp2_with fail
  go_loopw [5, 6] (fun x y wr => ∃ k, x = sv ((pln s).take k) ∧ y = .int .i64 (k : Nat) ∧ k ≤ N ∧ wr = w) (fun x y _ => N - (intOf y).toNat)
  case atStart => exact ⟨0, rfl, rfl, by omega, rfl⟩
  case round =>
    obtain ⟨k, rfl, rfl, hk, rfl⟩ := hrel
    rcases Nat.lt_or_ge k N with hlt | hge
    · have hkl : k < s.length := by rw [HN.out]; exact hlt
      have hlt' : (k : Int) < (N : Int) := by omega
      have htk : (pln s).take (k + 1) = (pln s).take k ++ [qm s[k]] := by
        rw [List.take_add_one, pln_get s k hkl]; rfl
      have hg1 : (bs s)[k]'(by rw [bs_size]; omega) = s[k] := bs_get' s k (by rw [bs_size]; omega) hkl
      have he := enc_ascii (qm s[k]) (by have := qm_range s[k]; omega)
      obtain ⟨d, hd⟩ : ∃ d, s[k] = d := ⟨_, rfl⟩
      rw [hd] at htk hg1 he
      obtain ⟨acc, hacc⟩ : ∃ acc, (pln s).take k = acc := ⟨_, rfl⟩
      rw [hacc] at htk ⊢
      have HT := Lib.hid htk
      have HA := Lib.hid hacc
      have hal : acc.length = k := by rw [← hacc, List.length_take, pln_len]; omega
      have hadd : ∀ w, (Op.stringOp .add (bs acc) (bs [qm d])).run Tryz.prog w = .ok (sv (acc ++ [qm d])) w := fun w => (run_string_add_sum w _ _ (by simp; omega)).trans (by rw [bs_append])
      have i0 : (0 : Int) ≤ (k : Int) := by omega
      clear htk hacc hd hal
      by_cases hb : d.toNat < 32 ∨ 126 < d.toNat ∨ d.toNat = 39
      · have hq2 : qm d = 63 := by unfold qm; rw [if_pos hb]
        have HQ := Lib.hid hq2
        rw [hq2] at hadd he
        have e63 : Utf8.encode 63 = bs [63] := he
        clear hq2 he
        rcases (show (d.toNat : Int) < 32 ∨ (¬ (d.toNat : Int) < 32 ∧ (126 : Int) < d.toNat) ∨ (¬ (d.toNat : Int) < 32 ∧ ¬ (126 : Int) < d.toNat ∧ d = 39) by
            rcases hb with h | h | h
            · omega
            · omega
            · refine .inr (.inr ⟨by omega, by omega, UInt8.toNat_inj.1 (by rw [h]; rfl)⟩)) with h1 | ⟨h1, h2⟩ | ⟨h1, h2, h3⟩
        all_goals
          clear hb
          try subst h3
          go_wp2_with fail
          go_roundw
          case rel => exact ⟨k + 1, by rw [HT.out, HQ.out], by go_num, by omega, trivial⟩
          case measure => simp [intOf]; omega
      · have hq2 : qm d = d := by unfold qm; rw [if_neg hb]
        have HQ := Lib.hid hq2
        rw [hq2] at hadd he
        have h1 : ¬ (d.toNat : Int) < 32 := by omega
        have h2 : ¬ (126 : Int) < (d.toNat : Int) := by omega
        have h3 : ((d.toNat : Int) == 39) = false := by rw [beq_eq_false_iff_ne]; omega
        clear hq2 hb
        go_wp2_with fail
        go_roundw
        case rel => exact ⟨k + 1, by rw [HT.out, HQ.out], by go_num, by omega, trivial⟩
        case measure => simp [intOf]; omega
    · have hge' : ¬ (k : Int) < (N : Int) := by omega
      have hkN : k = N := by omega
      subst hkN
      rw [HP.out]
      have hpl : (pln s).length ≤ 1000 := by rw [pln_len, HN.out]; exact hs
      go_wp2
      go_ret
      exact ⟨str_ret (by first | rfl | (rw [show ∀ a b : List UInt8, bs (a ++ b) = bs a ++ bs b from fun a b => (bs_append a b).symm, show ∀ a b : List UInt8, bs (a ++ b) = bs a ++ bs b from fun a b => (bs_append a b).symm]; rfl)), rfl⟩
set_option maxRecDepth 100000 in
set_option maxHeartbeats 4000000 in
theorem reft_13 (s : List UInt8) (w : World) (hs : s.length ≤ 1000) :
    Calls Tryz.prog 10 #[.int .i64 13, .string (bs s)] w fun e w' => e = .returned (sv (tx 13 (pln s))) ∧ w = w' := by
  rw [tx_13]
  obtain ⟨N, hN⟩ : ∃ N, s.length = N := ⟨_, rfl⟩
  have HN := Lib.hid hN
  have HP : Hid ((pln s).take N = pln s) := Lib.hid (List.take_of_length_le (by rw [pln_len, hN]; exact Nat.le_refl _))
  rw [hN] at hs
  have hsz : (bs s).size = N := by rw [bs_size]; exact hN
  clear hN
  go_enter Tryz.func10, Tryz.ntmps10
  go_wp2_with fail
  go_loopw [5, 6] (fun x y wr => ∃ k, x = sv ((pln s).take k) ∧ y = .int .i64 (k : Nat) ∧ k ≤ N ∧ wr = w) (fun x y _ => N - (intOf y).toNat)
  case atStart => exact ⟨0, rfl, rfl, by omega, rfl⟩
  case round =>
    obtain ⟨k, rfl, rfl, hk, rfl⟩ := hrel
    rcases Nat.lt_or_ge k N with hlt | hge
    · have hkl : k < s.length := by rw [HN.out]; exact hlt
      have hlt' : (k : Int) < (N : Int) := by omega
      have htk : (pln s).take (k + 1) = (pln s).take k ++ [qm s[k]] := by
        rw [List.take_add_one, pln_get s k hkl]; rfl
      have hg1 : (bs s)[k]'(by rw [bs_size]; omega) = s[k] := bs_get' s k (by rw [bs_size]; omega) hkl
      have he := enc_ascii (qm s[k]) (by have := qm_range s[k]; omega)
      obtain ⟨d, hd⟩ : ∃ d, s[k] = d := ⟨_, rfl⟩
      rw [hd] at htk hg1 he
      obtain ⟨acc, hacc⟩ : ∃ acc, (pln s).take k = acc := ⟨_, rfl⟩
      rw [hacc] at htk ⊢
      have HT := Lib.hid htk
      have HA := Lib.hid hacc
      have hal : acc.length = k := by rw [← hacc, List.length_take, pln_len]; omega
      have hadd : ∀ w, (Op.stringOp .add (bs acc) (bs [qm d])).run Tryz.prog w = .ok (sv (acc ++ [qm d])) w := fun w => (run_string_add_sum w _ _ (by simp; omega)).trans (by rw [bs_append])
      have i0 : (0 : Int) ≤ (k : Int) := by omega
      clear htk hacc hd hal
      by_cases hb : d.toNat < 32 ∨ 126 < d.toNat ∨ d.toNat = 39
      · have hq2 : qm d = 63 := by unfold qm; rw [if_pos hb]
        have HQ := Lib.hid hq2
        rw [hq2] at hadd he
        have e63 : Utf8.encode 63 = bs [63] := he
        clear hq2 he
        rcases (show (d.toNat : Int) < 32 ∨ (¬ (d.toNat : Int) < 32 ∧ (126 : Int) < d.toNat) ∨ (¬ (d.toNat : Int) < 32 ∧ ¬ (126 : Int) < d.toNat ∧ d = 39) by
            rcases hb with h | h | h
            · omega
            · omega
            · refine .inr (.inr ⟨by omega, by omega, UInt8.toNat_inj.1 (by rw [h]; rfl)⟩)) with h1 | ⟨h1, h2⟩ | ⟨h1, h2, h3⟩
        all_goals
          clear hb
          try subst h3
          go_wp2_with fail
          go_roundw
          case rel => exact ⟨k + 1, by rw [HT.out, HQ.out], by go_num, by omega, trivial⟩
          case measure => simp [intOf]; omega
      · have hq2 : qm d = d := by unfold qm; rw [if_neg hb]
        have HQ := Lib.hid hq2
        rw [hq2] at hadd he
        have h1 : ¬ (d.toNat : Int) < 32 := by omega
        have h2 : ¬ (126 : Int) < (d.toNat : Int) := by omega
        have h3 : ((d.toNat : Int) == 39) = false := by rw [beq_eq_false_iff_ne]; omega
        clear hq2 hb
        go_wp2_with fail
        go_roundw
        case rel => exact ⟨k + 1, by rw [HT.out, HQ.out], by go_num, by omega, trivial⟩
        case measure => simp [intOf]; omega
    · have hge' : ¬ (k : Int) < (N : Int) := by omega
      have hkN : k = N := by omega
      subst hkN
      rw [HP.out]
      have hpl : (pln s).length ≤ 1000 := by rw [pln_len, HN.out]; exact hs
      go_wp2
      go_ret
      exact ⟨str_ret (by first | rfl | (rw [show ∀ a b : List UInt8, bs (a ++ b) = bs a ++ bs b from fun a b => (bs_append a b).symm, show ∀ a b : List UInt8, bs (a ++ b) = bs a ++ bs b from fun a b => (bs_append a b).symm]; rfl)), rfl⟩
set_option maxRecDepth 100000 in
set_option maxHeartbeats 4000000 in
theorem reft_14 (s : List UInt8) (w : World) (hs : s.length ≤ 1000) :
    Calls Tryz.prog 10 #[.int .i64 14, .string (bs s)] w fun e w' => e = .returned (sv (tx 14 (pln s))) ∧ w = w' := by
  rw [tx_14]
  obtain ⟨N, hN⟩ : ∃ N, s.length = N := ⟨_, rfl⟩
  have HN := Lib.hid hN
  have HP : Hid ((pln s).take N = pln s) := Lib.hid (List.take_of_length_le (by rw [pln_len, hN]; exact Nat.le_refl _))
  rw [hN] at hs
  have hsz : (bs s).size = N := by rw [bs_size]; exact hN
  clear hN
  go_enter Tryz.func10, Tryz.ntmps10
  go_wp2_with fail
  go_loopw [5, 6] (fun x y wr => ∃ k, x = sv ((pln s).take k) ∧ y = .int .i64 (k : Nat) ∧ k ≤ N ∧ wr = w) (fun x y _ => N - (intOf y).toNat)
  case atStart => exact ⟨0, rfl, rfl, by omega, rfl⟩
  case round =>
    obtain ⟨k, rfl, rfl, hk, rfl⟩ := hrel
    rcases Nat.lt_or_ge k N with hlt | hge
    · have hkl : k < s.length := by rw [HN.out]; exact hlt
      have hlt' : (k : Int) < (N : Int) := by omega
      have htk : (pln s).take (k + 1) = (pln s).take k ++ [qm s[k]] := by
        rw [List.take_add_one, pln_get s k hkl]; rfl
      have hg1 : (bs s)[k]'(by rw [bs_size]; omega) = s[k] := bs_get' s k (by rw [bs_size]; omega) hkl
      have he := enc_ascii (qm s[k]) (by have := qm_range s[k]; omega)
      obtain ⟨d, hd⟩ : ∃ d, s[k] = d := ⟨_, rfl⟩
      rw [hd] at htk hg1 he
      obtain ⟨acc, hacc⟩ : ∃ acc, (pln s).take k = acc := ⟨_, rfl⟩
      rw [hacc] at htk ⊢
      have HT := Lib.hid htk
      have HA := Lib.hid hacc
      have hal : acc.length = k := by rw [← hacc, List.length_take, pln_len]; omega
      have hadd : ∀ w, (Op.stringOp .add (bs acc) (bs [qm d])).run Tryz.prog w = .ok (sv (acc ++ [qm d])) w := fun w => (run_string_add_sum w _ _ (by simp; omega)).trans (by rw [bs_append])
      have i0 : (0 : Int) ≤ (k : Int) := by omega
      clear htk hacc hd hal
      by_cases hb : d.toNat < 32 ∨ 126 < d.toNat ∨ d.toNat = 39
      · have hq2 : qm d = 63 := by unfold qm; rw [if_pos hb]
        have HQ := Lib.hid hq2
        rw [hq2] at hadd he
        have e63 : Utf8.encode 63 = bs [63] := he
        clear hq2 he
        rcases (show (d.toNat : Int) < 32 ∨ (¬ (d.toNat : Int) < 32 ∧ (126 : Int) < d.toNat) ∨ (¬ (d.toNat : Int) < 32 ∧ ¬ (126 : Int) < d.toNat ∧ d = 39) by
            rcases hb with h | h | h
            · omega
            · omega
            · refine .inr (.inr ⟨by omega, by omega, UInt8.toNat_inj.1 (by rw [h]; rfl)⟩)) with h1 | ⟨h1, h2⟩ | ⟨h1, h2, h3⟩
        all_goals
          clear hb
          try subst h3
          go_wp2_with fail
          go_roundw
          case rel => exact ⟨k + 1, by rw [HT.out, HQ.out], by go_num, by omega, trivial⟩
          case measure => simp [intOf]; omega
      · have hq2 : qm d = d := by unfold qm; rw [if_neg hb]
        have HQ := Lib.hid hq2
        rw [hq2] at hadd he
        have h1 : ¬ (d.toNat : Int) < 32 := by omega
        have h2 : ¬ (126 : Int) < (d.toNat : Int) := by omega
        have h3 : ((d.toNat : Int) == 39) = false := by rw [beq_eq_false_iff_ne]; omega
        clear hq2 hb
        go_wp2_with fail
        go_roundw
        case rel => exact ⟨k + 1, by rw [HT.out, HQ.out], by go_num, by omega, trivial⟩
        case measure => simp [intOf]; omega
    · have hge' : ¬ (k : Int) < (N : Int) := by omega
      have hkN : k = N := by omega
      subst hkN
      rw [HP.out]
      have hpl : (pln s).length ≤ 1000 := by rw [pln_len, HN.out]; exact hs
      go_wp2
      go_ret
      exact ⟨str_ret (by first | rfl | (rw [show ∀ a b : List UInt8, bs (a ++ b) = bs a ++ bs b from fun a b => (bs_append a b).symm, show ∀ a b : List UInt8, bs (a ++ b) = bs a ++ bs b from fun a b => (bs_append a b).symm]; rfl)), rfl⟩
set_option maxRecDepth 100000 in
set_option maxHeartbeats 4000000 in
theorem reft_15 (s : List UInt8) (w : World) (hs : s.length ≤ 1000) :
    Calls Tryz.prog 10 #[.int .i64 15, .string (bs s)] w fun e w' => e = .returned (sv (tx 15 (pln s))) ∧ w = w' := by
  rw [tx_15]
  obtain ⟨N, hN⟩ : ∃ N, s.length = N := ⟨_, rfl⟩
  have HN := Lib.hid hN
  have HP : Hid ((pln s).take N = pln s) := Lib.hid (List.take_of_length_le (by rw [pln_len, hN]; exact Nat.le_refl _))
  rw [hN] at hs
  have hsz : (bs s).size = N := by rw [bs_size]; exact hN
  clear hN
  go_enter Tryz.func10, Tryz.ntmps10
  go_wp2_with fail
  go_loopw [5, 6] (fun x y wr => ∃ k, x = sv ((pln s).take k) ∧ y = .int .i64 (k : Nat) ∧ k ≤ N ∧ wr = w) (fun x y _ => N - (intOf y).toNat)
  case atStart => exact ⟨0, rfl, rfl, by omega, rfl⟩
  case round =>
    obtain ⟨k, rfl, rfl, hk, rfl⟩ := hrel
    rcases Nat.lt_or_ge k N with hlt | hge
    · have hkl : k < s.length := by rw [HN.out]; exact hlt
      have hlt' : (k : Int) < (N : Int) := by omega
      have htk : (pln s).take (k + 1) = (pln s).take k ++ [qm s[k]] := by
        rw [List.take_add_one, pln_get s k hkl]; rfl
      have hg1 : (bs s)[k]'(by rw [bs_size]; omega) = s[k] := bs_get' s k (by rw [bs_size]; omega) hkl
      have he := enc_ascii (qm s[k]) (by have := qm_range s[k]; omega)
      obtain ⟨d, hd⟩ : ∃ d, s[k] = d := ⟨_, rfl⟩
      rw [hd] at htk hg1 he
      obtain ⟨acc, hacc⟩ : ∃ acc, (pln s).take k = acc := ⟨_, rfl⟩
      rw [hacc] at htk ⊢
      have HT := Lib.hid htk
      have HA := Lib.hid hacc
      have hal : acc.length = k := by rw [← hacc, List.length_take, pln_len]; omega
      have hadd : ∀ w, (Op.stringOp .add (bs acc) (bs [qm d])).run Tryz.prog w = .ok (sv (acc ++ [qm d])) w := fun w => (run_string_add_sum w _ _ (by simp; omega)).trans (by rw [bs_append])
      have i0 : (0 : Int) ≤ (k : Int) := by omega
      clear htk hacc hd hal
      by_cases hb : d.toNat < 32 ∨ 126 < d.toNat ∨ d.toNat = 39
      · have hq2 : qm d = 63 := by unfold qm; rw [if_pos hb]
        have HQ := Lib.hid hq2
        rw [hq2] at hadd he
        have e63 : Utf8.encode 63 = bs [63] := he
        clear hq2 he
        rcases (show (d.toNat : Int) < 32 ∨ (¬ (d.toNat : Int) < 32 ∧ (126 : Int) < d.toNat) ∨ (¬ (d.toNat : Int) < 32 ∧ ¬ (126 : Int) < d.toNat ∧ d = 39) by
            rcases hb with h | h | h
            · omega
            · omega
            · refine .inr (.inr ⟨by omega, by omega, UInt8.toNat_inj.1 (by rw [h]; rfl)⟩)) with h1 | ⟨h1, h2⟩ | ⟨h1, h2, h3⟩
        all_goals
          clear hb
          try subst h3
          go_wp2_with fail
          go_roundw
          case rel => exact ⟨k + 1, by rw [HT.out, HQ.out], by go_num, by omega, trivial⟩
          case measure => simp [intOf]; omega
      · have hq2 : qm d = d := by unfold qm; rw [if_neg hb]
        have HQ := Lib.hid hq2
        rw [hq2] at hadd he
        have h1 : ¬ (d.toNat : Int) < 32 := by omega
        have h2 : ¬ (126 : Int) < (d.toNat : Int) := by omega
        have h3 : ((d.toNat : Int) == 39) = false := by rw [beq_eq_false_iff_ne]; omega
        clear hq2 hb
        go_wp2_with fail
        go_roundw
        case rel => exact ⟨k + 1, by rw [HT.out, HQ.out], by go_num, by omega, trivial⟩
        case measure => simp [intOf]; omega
    · have hge' : ¬ (k : Int) < (N : Int) := by omega
      have hkN : k = N := by omega
      subst hkN
      rw [HP.out]
      have hpl : (pln s).length ≤ 1000 := by rw [pln_len, HN.out]; exact hs
      go_wp2
      go_ret
      exact ⟨str_ret (by first | rfl | (rw [show ∀ a b : List UInt8, bs (a ++ b) = bs a ++ bs b from fun a b => (bs_append a b).symm, show ∀ a b : List UInt8, bs (a ++ b) = bs a ++ bs b from fun a b => (bs_append a b).symm]; rfl)), rfl⟩
set_option maxRecDepth 100000 in
set_option maxHeartbeats 4000000 in
theorem reft_16 (s : List UInt8) (w : World) (hs : s.length ≤ 1000) :
    Calls Tryz.prog 10 #[.int .i64 16, .string (bs s)] w fun e w' => e = .returned (sv (tx 16 (pln s))) ∧ w = w' := by
  rw [tx_16]
  obtain ⟨N, hN⟩ : ∃ N, s.length = N := ⟨_, rfl⟩
  have HN := Lib.hid hN
  have HP : Hid ((pln s).take N = pln s) := Lib.hid (List.take_of_length_le (by rw [pln_len, hN]; exact Nat.le_refl _))
  rw [hN] at hs
  have hsz : (bs s).size = N := by rw [bs_size]; exact hN
  clear hN
  go_enter Tryz.func10, Tryz.ntmps10
  go_wp2_with fail
  go_loopw [5, 6] (fun x y wr => ∃ k, x = sv ((pln s).take k) ∧ y = .int .i64 (k : Nat) ∧ k ≤ N ∧ wr = w) (fun x y _ => N - (intOf y).toNat)
  case atStart => exact ⟨0, rfl, rfl, by omega, rfl⟩
  case round =>
    obtain ⟨k, rfl, rfl, hk, rfl⟩ := hrel
    rcases Nat.lt_or_ge k N with hlt | hge
    · have hkl : k < s.length := by rw [HN.out]; exact hlt
      have hlt' : (k : Int) < (N : Int) := by omega
      have htk : (pln s).take (k + 1) = (pln s).take k ++ [qm s[k]] := by
        rw [List.take_add_one, pln_get s k hkl]; rfl
      have hg1 : (bs s)[k]'(by rw [bs_size]; omega) = s[k] := bs_get' s k (by rw [bs_size]; omega) hkl
      have he := enc_ascii (qm s[k]) (by have := qm_range s[k]; omega)
      obtain ⟨d, hd⟩ : ∃ d, s[k] = d := ⟨_, rfl⟩
      rw [hd] at htk hg1 he
      obtain ⟨acc, hacc⟩ : ∃ acc, (pln s).take k = acc := ⟨_, rfl⟩
      rw [hacc] at htk ⊢
      have HT := Lib.hid htk
      have HA := Lib.hid hacc
      have hal : acc.length = k := by rw [← hacc, List.length_take, pln_len]; omega
      have hadd : ∀ w, (Op.stringOp .add (bs acc) (bs [qm d])).run Tryz.prog w = .ok (sv (acc ++ [qm d])) w := fun w => (run_string_add_sum w _ _ (by simp; omega)).trans (by rw [bs_append])
      have i0 : (0 : Int) ≤ (k : Int) := by omega
      clear htk hacc hd hal
      by_cases hb : d.toNat < 32 ∨ 126 < d.toNat ∨ d.toNat = 39
      · have hq2 : qm d = 63 := by unfold qm; rw [if_pos hb]
        have HQ := Lib.hid hq2
        rw [hq2] at hadd he
        have e63 : Utf8.encode 63 = bs [63] := he
        clear hq2 he
        rcases (show (d.toNat : Int) < 32 ∨ (¬ (d.toNat : Int) < 32 ∧ (126 : Int) < d.toNat) ∨ (¬ (d.toNat : Int) < 32 ∧ ¬ (126 : Int) < d.toNat ∧ d = 39) by
            rcases hb with h | h | h
            · omega
            · omega
            · refine .inr (.inr ⟨by omega, by omega, UInt8.toNat_inj.1 (by rw [h]; rfl)⟩)) with h1 | ⟨h1, h2⟩ | ⟨h1, h2, h3⟩
        all_goals
          clear hb
          try subst h3
          go_wp2_with fail
          go_roundw
          case rel => exact ⟨k + 1, by rw [HT.out, HQ.out], by go_num, by omega, trivial⟩
          case measure => simp [intOf]; omega
      · have hq2 : qm d = d := by unfold qm; rw [if_neg hb]
        have HQ := Lib.hid hq2
        rw [hq2] at hadd he
        have h1 : ¬ (d.toNat : Int) < 32 := by omega
        have h2 : ¬ (126 : Int) < (d.toNat : Int) := by omega
        have h3 : ((d.toNat : Int) == 39) = false := by rw [beq_eq_false_iff_ne]; omega
        clear hq2 hb
        go_wp2_with fail
        go_roundw
        case rel => exact ⟨k + 1, by rw [HT.out, HQ.out], by go_num, by omega, trivial⟩
        case measure => simp [intOf]; omega
    · have hge' : ¬ (k : Int) < (N : Int) := by omega
      have hkN : k = N := by omega
      subst hkN
      rw [HP.out]
      have hpl : (pln s).length ≤ 1000 := by rw [pln_len, HN.out]; exact hs
      go_wp2
      go_ret
      exact ⟨str_ret (by first | rfl | (rw [show ∀ a b : List UInt8, bs (a ++ b) = bs a ++ bs b from fun a b => (bs_append a b).symm, show ∀ a b : List UInt8, bs (a ++ b) = bs a ++ bs b from fun a b => (bs_append a b).symm]; rfl)), rfl⟩
set_option maxRecDepth 100000 in
set_option maxHeartbeats 4000000 in
theorem reft_17 (s : List UInt8) (w : World) (hs : s.length ≤ 1000) :
    Calls Tryz.prog 10 #[.int .i64 17, .string (bs s)] w fun e w' => e = .returned (sv (tx 17 (pln s))) ∧ w = w' := by
  rw [tx_17]
  obtain ⟨N, hN⟩ : ∃ N, s.length = N := ⟨_, rfl⟩
  have HN := Lib.hid hN
  have HP : Hid ((pln s).take N = pln s) := Lib.hid (List.take_of_length_le (by rw [pln_len, hN]; exact Nat.le_refl _))
  rw [hN] at hs
  have hsz : (bs s).size = N := by rw [bs_size]; exact hN
  clear hN
  go_enter Tryz.func10, Tryz.ntmps10
  go_wp2_with fail
  go_loopw [5, 6] (fun x y wr => ∃ k, x = sv ((pln s).take k) ∧ y = .int .i64 (k : Nat) ∧ k ≤ N ∧ wr = w) (fun x y _ => N - (intOf y).toNat)
  case atStart => exact ⟨0, rfl, rfl, by omega, rfl⟩
  case round =>
    obtain ⟨k, rfl, rfl, hk, rfl⟩ := hrel
    rcases Nat.lt_or_ge k N with hlt | hge
    · have hkl : k < s.length := by rw [HN.out]; exact hlt
      have hlt' : (k : Int) < (N : Int) := by omega
      have htk : (pln s).take (k + 1) = (pln s).take k ++ [qm s[k]] := by
        rw [List.take_add_one, pln_get s k hkl]; rfl
      have hg1 : (bs s)[k]'(by rw [bs_size]; omega) = s[k] := bs_get' s k (by rw [bs_size]; omega) hkl
      have he := enc_ascii (qm s[k]) (by have := qm_range s[k]; omega)
      obtain ⟨d, hd⟩ : ∃ d, s[k] = d := ⟨_, rfl⟩
      rw [hd] at htk hg1 he
      obtain ⟨acc, hacc⟩ : ∃ acc, (pln s).take k = acc := ⟨_, rfl⟩
      rw [hacc] at htk ⊢
      have HT := Lib.hid htk
      have HA := Lib.hid hacc
      have hal : acc.length = k := by rw [← hacc, List.length_take, pln_len]; omega
      have hadd : ∀ w, (Op.stringOp .add (bs acc) (bs [qm d])).run Tryz.prog w = .ok (sv (acc ++ [qm d])) w := fun w => (run_string_add_sum w _ _ (by simp; omega)).trans (by rw [bs_append])
      have i0 : (0 : Int) ≤ (k : Int) := by omega
      clear htk hacc hd hal
      by_cases hb : d.toNat < 32 ∨ 126 < d.toNat ∨ d.toNat = 39
      · have hq2 : qm d = 63 := by unfold qm; rw [if_pos hb]
        have HQ := Lib.hid hq2
        rw [hq2] at hadd he
        have e63 : Utf8.encode 63 = bs [63] := he
        clear hq2 he
        rcases (show (d.toNat : Int) < 32 ∨ (¬ (d.toNat : Int) < 32 ∧ (126 : Int) < d.toNat) ∨ (¬ (d.toNat : Int) < 32 ∧ ¬ (126 : Int) < d.toNat ∧ d = 39) by
            rcases hb with h | h | h
            · omega
            · omega
            · refine .inr (.inr ⟨by omega, by omega, UInt8.toNat_inj.1 (by rw [h]; rfl)⟩)) with h1 | ⟨h1, h2⟩ | ⟨h1, h2, h3⟩
        all_goals
          clear hb
          try subst h3
          go_wp2_with fail
          go_roundw
          case rel => exact ⟨k + 1, by rw [HT.out, HQ.out], by go_num, by omega, trivial⟩
          case measure => simp [intOf]; omega
      · have hq2 : qm d = d := by unfold qm; rw [if_neg hb]
        have HQ := Lib.hid hq2
        rw [hq2] at hadd he
        have h1 : ¬ (d.toNat : Int) < 32 := by omega
        have h2 : ¬ (126 : Int) < (d.toNat : Int) := by omega
        have h3 : ((d.toNat : Int) == 39) = false := by rw [beq_eq_false_iff_ne]; omega
        clear hq2 hb
        go_wp2_with fail
        go_roundw
        case rel => exact ⟨k + 1, by rw [HT.out, HQ.out], by go_num, by omega, trivial⟩
        case measure => simp [intOf]; omega
    · have hge' : ¬ (k : Int) < (N : Int) := by omega
      have hkN : k = N := by omega
      subst hkN
      rw [HP.out]
      have hpl : (pln s).length ≤ 1000 := by rw [pln_len, HN.out]; exact hs
      go_wp2
      go_ret
      exact ⟨str_ret (by first | rfl | (rw [show ∀ a b : List UInt8, bs (a ++ b) = bs a ++ bs b from fun a b => (bs_append a b).symm, show ∀ a b : List UInt8, bs (a ++ b) = bs a ++ bs b from fun a b => (bs_append a b).symm]; rfl)), rfl⟩
set_option maxRecDepth 100000 in
set_option maxHeartbeats 4000000 in
theorem reft_18 (s : List UInt8) (w : World) (hs : s.length ≤ 1000) :
    Calls Tryz.prog 10 #[.int .i64 18, .string (bs s)] w fun e w' => e = .returned (sv (tx 18 (pln s))) ∧ w = w' := by
  rw [tx_18]
  obtain ⟨N, hN⟩ : ∃ N, s.length = N := ⟨_, rfl⟩
  have HN := Lib.hid hN
  have HP : Hid ((pln s).take N = pln s) := Lib.hid (List.take_of_length_le (by rw [pln_len, hN]; exact Nat.le_refl _))
  rw [hN] at hs
  have hsz : (bs s).size = N := by rw [bs_size]; exact hN
  clear hN
  go_enter Tryz.func10, Tryz.ntmps10
  go_wp2_with fail
  go_loopw [5, 6] (fun x y wr => ∃ k, x = sv ((pln s).take k) ∧ y = .int .i64 (k : Nat) ∧ k ≤ N ∧ wr = w) (fun x y _ => N - (intOf y).toNat)
  case atStart => exact ⟨0, rfl, rfl, by omega, rfl⟩
  case round =>
    obtain ⟨k, rfl, rfl, hk, rfl⟩ := hrel
    rcases Nat.lt_or_ge k N with hlt | hge
    · have hkl : k < s.length := by rw [HN.out]; exact hlt
      have hlt' : (k : Int) < (N : Int) := by omega
      have htk : (pln s).take (k + 1) = (pln s).take k ++ [qm s[k]] := by
        rw [List.take_add_one, pln_get s k hkl]; rfl
      have hg1 : (bs s)[k]'(by rw [bs_size]; omega) = s[k] := bs_get' s k (by rw [bs_size]; omega) hkl
      have he := enc_ascii (qm s[k]) (by have := qm_range s[k]; omega)
      obtain ⟨d, hd⟩ : ∃ d, s[k] = d := ⟨_, rfl⟩
      rw [hd] at htk hg1 he
      obtain ⟨acc, hacc⟩ : ∃ acc, (pln s).take k = acc := ⟨_, rfl⟩
      rw [hacc] at htk ⊢
      have HT := Lib.hid htk
      have HA := Lib.hid hacc
      have hal : acc.length = k := by rw [← hacc, List.length_take, pln_len]; omega
      have hadd : ∀ w, (Op.stringOp .add (bs acc) (bs [qm d])).run Tryz.prog w = .ok (sv (acc ++ [qm d])) w := fun w => (run_string_add_sum w _ _ (by simp; omega)).trans (by rw [bs_append])
      have i0 : (0 : Int) ≤ (k : Int) := by omega
      clear htk hacc hd hal
      by_cases hb : d.toNat < 32 ∨ 126 < d.toNat ∨ d.toNat = 39
      · have hq2 : qm d = 63 := by unfold qm; rw [if_pos hb]
        have HQ := Lib.hid hq2
        rw [hq2] at hadd he
        have e63 : Utf8.encode 63 = bs [63] := he
        clear hq2 he
        rcases (show (d.toNat : Int) < 32 ∨ (¬ (d.toNat : Int) < 32 ∧ (126 : Int) < d.toNat) ∨ (¬ (d.toNat : Int) < 32 ∧ ¬ (126 : Int) < d.toNat ∧ d = 39) by
            rcases hb with h | h | h
            · omega
            · omega
            · refine .inr (.inr ⟨by omega, by omega, UInt8.toNat_inj.1 (by rw [h]; rfl)⟩)) with h1 | ⟨h1, h2⟩ | ⟨h1, h2, h3⟩
        all_goals
          clear hb
          try subst h3
          go_wp2_with fail
          go_roundw
          case rel => exact ⟨k + 1, by rw [HT.out, HQ.out], by go_num, by omega, trivial⟩
          case measure => simp [intOf]; omega
      · have hq2 : qm d = d := by unfold qm; rw [if_neg hb]
        have HQ := Lib.hid hq2
        rw [hq2] at hadd he
        have h1 : ¬ (d.toNat : Int) < 32 := by omega
        have h2 : ¬ (126 : Int) < (d.toNat : Int) := by omega
        have h3 : ((d.toNat : Int) == 39) = false := by rw [beq_eq_false_iff_ne]; omega
        clear hq2 hb
        go_wp2_with fail
        go_roundw
        case rel => exact ⟨k + 1, by rw [HT.out, HQ.out], by go_num, by omega, trivial⟩
        case measure => simp [intOf]; omega
    · have hge' : ¬ (k : Int) < (N : Int) := by omega
      have hkN : k = N := by omega
      subst hkN
      rw [HP.out]
      have hpl : (pln s).length ≤ 1000 := by rw [pln_len, HN.out]; exact hs
      go_wp2
      go_ret
      exact ⟨str_ret (by first | rfl | (rw [show ∀ a b : List UInt8, bs (a ++ b) = bs a ++ bs b from fun a b => (bs_append a b).symm, show ∀ a b : List UInt8, bs (a ++ b) = bs a ++ bs b from fun a b => (bs_append a b).symm]; rfl)), rfl⟩
set_option maxRecDepth 100000 in
set_option maxHeartbeats 4000000 in
theorem reft_19 (s : List UInt8) (w : World) (hs : s.length ≤ 1000) :
    Calls Tryz.prog 10 #[.int .i64 19, .string (bs s)] w fun e w' => e = .returned (sv (tx 19 (pln s))) ∧ w = w' := by
  rw [tx_19]
  obtain ⟨N, hN⟩ : ∃ N, s.length = N := ⟨_, rfl⟩
  have HN := Lib.hid hN
  have HP : Hid ((pln s).take N = pln s) := Lib.hid (List.take_of_length_le (by rw [pln_len, hN]; exact Nat.le_refl _))
  rw [hN] at hs
  have hsz : (bs s).size = N := by rw [bs_size]; exact hN
  clear hN
  go_enter Tryz.func10, Tryz.ntmps10
  go_wp2_with fail
  go_loopw [5, 6] (fun x y wr => ∃ k, x = sv ((pln s).take k) ∧ y = .int .i64 (k : Nat) ∧ k ≤ N ∧ wr = w) (fun x y _ => N - (intOf y).toNat)
  case atStart => exact ⟨0, rfl, rfl, by omega, rfl⟩
  case round =>
    obtain ⟨k, rfl, rfl, hk, rfl⟩ := hrel
    rcases Nat.lt_or_ge k N with hlt | hge
    · have hkl : k < s.length := by rw [HN.out]; exact hlt
      have hlt' : (k : Int) < (N : Int) := by omega
      have htk : (pln s).take (k + 1) = (pln s).take k ++ [qm s[k]] := by
        rw [List.take_add_one, pln_get s k hkl]; rfl
      have hg1 : (bs s)[k]'(by rw [bs_size]; omega) = s[k] := bs_get' s k (by rw [bs_size]; omega) hkl
      have he := enc_ascii (qm s[k]) (by have := qm_range s[k]; omega)
      obtain ⟨d, hd⟩ : ∃ d, s[k] = d := ⟨_, rfl⟩
      rw [hd] at htk hg1 he
      obtain ⟨acc, hacc⟩ : ∃ acc, (pln s).take k = acc := ⟨_, rfl⟩
      rw [hacc] at htk ⊢
      have HT := Lib.hid htk
      have HA := Lib.hid hacc
      have hal : acc.length = k := by rw [← hacc, List.length_take, pln_len]; omega
      have hadd : ∀ w, (Op.stringOp .add (bs acc) (bs [qm d])).run Tryz.prog w = .ok (sv (acc ++ [qm d])) w := fun w => (run_string_add_sum w _ _ (by simp; omega)).trans (by rw [bs_append])
      have i0 : (0 : Int) ≤ (k : Int) := by omega
      clear htk hacc hd hal
      by_cases hb : d.toNat < 32 ∨ 126 < d.toNat ∨ d.toNat = 39
      · have hq2 : qm d = 63 := by unfold qm; rw [if_pos hb]
        have HQ := Lib.hid hq2
        rw [hq2] at hadd he
        have e63 : Utf8.encode 63 = bs [63] := he
        clear hq2 he
        rcases (show (d.toNat : Int) < 32 ∨ (¬ (d.toNat : Int) < 32 ∧ (126 : Int) < d.toNat) ∨ (¬ (d.toNat : Int) < 32 ∧ ¬ (126 : Int) < d.toNat ∧ d = 39) by
            rcases hb with h | h | h
            · omega
            · omega
            · refine .inr (.inr ⟨by omega, by omega, UInt8.toNat_inj.1 (by rw [h]; rfl)⟩)) with h1 | ⟨h1, h2⟩ | ⟨h1, h2, h3⟩
        all_goals
          clear hb
          try subst h3
          go_wp2_with fail
          go_roundw
          case rel => exact ⟨k + 1, by rw [HT.out, HQ.out], by go_num, by omega, trivial⟩
          case measure => simp [intOf]; omega
      · have hq2 : qm d = d := by unfold qm; rw [if_neg hb]
        have HQ := Lib.hid hq2
        rw [hq2] at hadd he
        have h1 : ¬ (d.toNat : Int) < 32 := by omega
        have h2 : ¬ (126 : Int) < (d.toNat : Int) := by omega
        have h3 : ((d.toNat : Int) == 39) = false := by rw [beq_eq_false_iff_ne]; omega
        clear hq2 hb
        go_wp2_with fail
        go_roundw
        case rel => exact ⟨k + 1, by rw [HT.out, HQ.out], by go_num, by omega, trivial⟩
        case measure => simp [intOf]; omega
    · have hge' : ¬ (k : Int) < (N : Int) := by omega
      have hkN : k = N := by omega
      subst hkN
      rw [HP.out]
      have hpl : (pln s).length ≤ 1000 := by rw [pln_len, HN.out]; exact hs
      go_wp2
      go_ret
      exact ⟨str_ret (by first | rfl | (rw [show ∀ a b : List UInt8, bs (a ++ b) = bs a ++ bs b from fun a b => (bs_append a b).symm, show ∀ a b : List UInt8, bs (a ++ b) = bs a ++ bs b from fun a b => (bs_append a b).symm]; rfl)), rfl⟩
set_option maxRecDepth 100000 in
set_option maxHeartbeats 4000000 in
theorem reft_20 (s : List UInt8) (w : World) (hs : s.length ≤ 1000) :
    Calls Tryz.prog 10 #[.int .i64 20, .string (bs s)] w fun e w' => e = .returned (sv (tx 20 (pln s))) ∧ w = w' := by
  rw [tx_20]
  obtain ⟨N, hN⟩ : ∃ N, s.length = N := ⟨_, rfl⟩
  have HN := Lib.hid hN
  have HP : Hid ((pln s).take N = pln s) := Lib.hid (List.take_of_length_le (by rw [pln_len, hN]; exact Nat.le_refl _))
  rw [hN] at hs
  have hsz : (bs s).size = N := by rw [bs_size]; exact hN
  clear hN
  go_enter Tryz.func10, Tryz.ntmps10
  go_wp2_with fail
  go_loopw [5, 6] (fun x y wr => ∃ k, x = sv ((pln s).take k) ∧ y = .int .i64 (k : Nat) ∧ k ≤ N ∧ wr = w) (fun x y _ => N - (intOf y).toNat)
  case atStart => exact ⟨0, rfl, rfl, by omega, rfl⟩
  case round =>
    obtain ⟨k, rfl, rfl, hk, rfl⟩ := hrel
    rcases Nat.lt_or_ge k N with hlt | hge
    · have hkl : k < s.length := by rw [HN.out]; exact hlt
      have hlt' : (k : Int) < (N : Int) := by omega
      have htk : (pln s).take (k + 1) = (pln s).take k ++ [qm s[k]] := by
        rw [List.take_add_one, pln_get s k hkl]; rfl
      have hg1 : (bs s)[k]'(by rw [bs_size]; omega) = s[k] := bs_get' s k (by rw [bs_size]; omega) hkl
      have he := enc_ascii (qm s[k]) (by have := qm_range s[k]; omega)
      obtain ⟨d, hd⟩ : ∃ d, s[k] = d := ⟨_, rfl⟩
      rw [hd] at htk hg1 he
      obtain ⟨acc, hacc⟩ : ∃ acc, (pln s).take k = acc := ⟨_, rfl⟩
      rw [hacc] at htk ⊢
      have HT := Lib.hid htk
      have HA := Lib.hid hacc
      have hal : acc.length = k := by rw [← hacc, List.length_take, pln_len]; omega
      have hadd : ∀ w, (Op.stringOp .add (bs acc) (bs [qm d])).run Tryz.prog w = .ok (sv (acc ++ [qm d])) w := fun w => (run_string_add_sum w _ _ (by simp; omega)).trans (by rw [bs_append])
      have i0 : (0 : Int) ≤ (k : Int) := by omega
      clear htk hacc hd hal
      by_cases hb : d.toNat < 32 ∨ 126 < d.toNat ∨ d.toNat = 39
      · have hq2 : qm d = 63 := by unfold qm; rw [if_pos hb]
        have HQ := Lib.hid hq2
        rw [hq2] at hadd he
        have e63 : Utf8.encode 63 = bs [63] := he
        clear hq2 he
        rcases (show (d.toNat : Int) < 32 ∨ (¬ (d.toNat : Int) < 32 ∧ (126 : Int) < d.toNat) ∨ (¬ (d.toNat : Int) < 32 ∧ ¬ (126 : Int) < d.toNat ∧ d = 39) by
            rcases hb with h | h | h
            · omega
            · omega
            · refine .inr (.inr ⟨by omega, by omega, UInt8.toNat_inj.1 (by rw [h]; rfl)⟩)) with h1 | ⟨h1, h2⟩ | ⟨h1, h2, h3⟩
        all_goals
          clear hb
          try subst h3
          go_wp2_with fail
          go_roundw
          case rel => exact ⟨k + 1, by rw [HT.out, HQ.out], by go_num, by omega, trivial⟩
          case measure => simp [intOf]; omega
      · have hq2 : qm d = d := by unfold qm; rw [if_neg hb]
        have HQ := Lib.hid hq2
        rw [hq2] at hadd he
        have h1 : ¬ (d.toNat : Int) < 32 := by omega
        have h2 : ¬ (126 : Int) < (d.toNat : Int) := by omega
        have h3 : ((d.toNat : Int) == 39) = false := by rw [beq_eq_false_iff_ne]; omega
        clear hq2 hb
        go_wp2_with fail
        go_roundw
        case rel => exact ⟨k + 1, by rw [HT.out, HQ.out], by go_num, by omega, trivial⟩
        case measure => simp [intOf]; omega
    · have hge' : ¬ (k : Int) < (N : Int) := by omega
      have hkN : k = N := by omega
      subst hkN
      rw [HP.out]
      have hpl : (pln s).length ≤ 1000 := by rw [pln_len, HN.out]; exact hs
      go_wp2
      go_ret
      exact ⟨str_ret (by first | rfl | (rw [show ∀ a b : List UInt8, bs (a ++ b) = bs a ++ bs b from fun a b => (bs_append a b).symm, show ∀ a b : List UInt8, bs (a ++ b) = bs a ++ bs b from fun a b => (bs_append a b).symm]; rfl)), rfl⟩
set_option maxRecDepth 100000 in
set_option maxHeartbeats 4000000 in
theorem reft_21 (s : List UInt8) (w : World) (hs : s.length ≤ 1000) :
    Calls Tryz.prog 10 #[.int .i64 21, .string (bs s)] w fun e w' => e = .returned (sv (tx 21 (pln s))) ∧ w = w' := by
  rw [tx_21]
  obtain ⟨N, hN⟩ : ∃ N, s.length = N := ⟨_, rfl⟩
  have HN := Lib.hid hN
  have HP : Hid ((pln s).take N = pln s) := Lib.hid (List.take_of_length_le (by rw [pln_len, hN]; exact Nat.le_refl _))
  rw [hN] at hs
  have hsz : (bs s).size = N := by rw [bs_size]; exact hN
  clear hN
  go_enter Tryz.func10, Tryz.ntmps10
  go_wp2_with fail
  go_loopw [5, 6] (fun x y wr => ∃ k, x = sv ((pln s).take k) ∧ y = .int .i64 (k : Nat) ∧ k ≤ N ∧ wr = w) (fun x y _ => N - (intOf y).toNat)
  case atStart => exact ⟨0, rfl, rfl, by omega, rfl⟩
  case round =>
    obtain ⟨k, rfl, rfl, hk, rfl⟩ := hrel
    rcases Nat.lt_or_ge k N with hlt | hge
    · have hkl : k < s.length := by rw [HN.out]; exact hlt
      have hlt' : (k : Int) < (N : Int) := by omega
      have htk : (pln s).take (k + 1) = (pln s).take k ++ [qm s[k]] := by
        rw [List.take_add_one, pln_get s k hkl]; rfl
      have hg1 : (bs s)[k]'(by rw [bs_size]; omega) = s[k] := bs_get' s k (by rw [bs_size]; omega) hkl
      have he := enc_ascii (qm s[k]) (by have := qm_range s[k]; omega)
      obtain ⟨d, hd⟩ : ∃ d, s[k] = d := ⟨_, rfl⟩
      rw [hd] at htk hg1 he
      obtain ⟨acc, hacc⟩ : ∃ acc, (pln s).take k = acc := ⟨_, rfl⟩
      rw [hacc] at htk ⊢
      have HT := Lib.hid htk
      have HA := Lib.hid hacc
      have hal : acc.length = k := by rw [← hacc, List.length_take, pln_len]; omega
      have hadd : ∀ w, (Op.stringOp .add (bs acc) (bs [qm d])).run Tryz.prog w = .ok (sv (acc ++ [qm d])) w := fun w => (run_string_add_sum w _ _ (by simp; omega)).trans (by rw [bs_append])
      have i0 : (0 : Int) ≤ (k : Int) := by omega
      clear htk hacc hd hal
      by_cases hb : d.toNat < 32 ∨ 126 < d.toNat ∨ d.toNat = 39
      · have hq2 : qm d = 63 := by unfold qm; rw [if_pos hb]
        have HQ := Lib.hid hq2
        rw [hq2] at hadd he
        have e63 : Utf8.encode 63 = bs [63] := he
        clear hq2 he
        rcases (show (d.toNat : Int) < 32 ∨ (¬ (d.toNat : Int) < 32 ∧ (126 : Int) < d.toNat) ∨ (¬ (d.toNat : Int) < 32 ∧ ¬ (126 : Int) < d.toNat ∧ d = 39) by
            rcases hb with h | h | h
            · omega
            · omega
            · refine .inr (.inr ⟨by omega, by omega, UInt8.toNat_inj.1 (by rw [h]; rfl)⟩)) with h1 | ⟨h1, h2⟩ | ⟨h1, h2, h3⟩
        all_goals
          clear hb
          try subst h3
          go_wp2_with fail
          go_roundw
          case rel => exact ⟨k + 1, by rw [HT.out, HQ.out], by go_num, by omega, trivial⟩
          case measure => simp [intOf]; omega
      · have hq2 : qm d = d := by unfold qm; rw [if_neg hb]
        have HQ := Lib.hid hq2
        rw [hq2] at hadd he
        have h1 : ¬ (d.toNat : Int) < 32 := by omega
        have h2 : ¬ (126 : Int) < (d.toNat : Int) := by omega
        have h3 : ((d.toNat : Int) == 39) = false := by rw [beq_eq_false_iff_ne]; omega
        clear hq2 hb
        go_wp2_with fail
        go_roundw
        case rel => exact ⟨k + 1, by rw [HT.out, HQ.out], by go_num, by omega, trivial⟩
        case measure => simp [intOf]; omega
    · have hge' : ¬ (k : Int) < (N : Int) := by omega
      have hkN : k = N := by omega
      subst hkN
      rw [HP.out]
      have hpl : (pln s).length ≤ 1000 := by rw [pln_len, HN.out]; exact hs
      go_wp2
      go_ret
      exact ⟨str_ret (by first | rfl | (rw [show ∀ a b : List UInt8, bs (a ++ b) = bs a ++ bs b from fun a b => (bs_append a b).symm, show ∀ a b : List UInt8, bs (a ++ b) = bs a ++ bs b from fun a b => (bs_append a b).symm]; rfl)), rfl⟩
set_option maxRecDepth 100000 in
set_option maxHeartbeats 4000000 in
theorem reft_22 (s : List UInt8) (w : World) (hs : s.length ≤ 1000) :
    Calls Tryz.prog 10 #[.int .i64 22, .string (bs s)] w fun e w' => e = .returned (sv (tx 22 (pln s))) ∧ w = w' := by
  rw [tx_22]
  obtain ⟨N, hN⟩ : ∃ N, s.length = N := ⟨_, rfl⟩
  have HN := Lib.hid hN
  have HP : Hid ((pln s).take N = pln s) := Lib.hid (List.take_of_length_le (by rw [pln_len, hN]; exact Nat.le_refl _))
  rw [hN] at hs
  have hsz : (bs s).size = N := by rw [bs_size]; exact hN
  clear hN
  go_enter Tryz.func10, Tryz.ntmps10
  go_wp2_with fail
  go_loopw [5, 6] (fun x y wr => ∃ k, x = sv ((pln s).take k) ∧ y = .int .i64 (k : Nat) ∧ k ≤ N ∧ wr = w) (fun x y _ => N - (intOf y).toNat)
  case atStart => exact ⟨0, rfl, rfl, by omega, rfl⟩
  case round =>
    obtain ⟨k, rfl, rfl, hk, rfl⟩ := hrel
    rcases Nat.lt_or_ge k N with hlt | hge
    · have hkl : k < s.length := by rw [HN.out]; exact hlt
      have hlt' : (k : Int) < (N : Int) := by omega
      have htk : (pln s).take (k + 1) = (pln s).take k ++ [qm s[k]] := by
        rw [List.take_add_one, pln_get s k hkl]; rfl
      have hg1 : (bs s)[k]'(by rw [bs_size]; omega) = s[k] := bs_get' s k (by rw [bs_size]; omega) hkl
      have he := enc_ascii (qm s[k]) (by have := qm_range s[k]; omega)
      obtain ⟨d, hd⟩ : ∃ d, s[k] = d := ⟨_, rfl⟩
      rw [hd] at htk hg1 he
      obtain ⟨acc, hacc⟩ : ∃ acc, (pln s).take k = acc := ⟨_, rfl⟩
      rw [hacc] at htk ⊢
      have HT := Lib.hid htk
      have HA := Lib.hid hacc
      have hal : acc.length = k := by rw [← hacc, List.length_take, pln_len]; omega
      have hadd : ∀ w, (Op.stringOp .add (bs acc) (bs [qm d])).run Tryz.prog w = .ok (sv (acc ++ [qm d])) w := fun w => (run_string_add_sum w _ _ (by simp; omega)).trans (by rw [bs_append])
      have i0 : (0 : Int) ≤ (k : Int) := by omega
      clear htk hacc hd hal
      by_cases hb : d.toNat < 32 ∨ 126 < d.toNat ∨ d.toNat = 39
      · have hq2 : qm d = 63 := by unfold qm; rw [if_pos hb]
        have HQ := Lib.hid hq2
        rw [hq2] at hadd he
        have e63 : Utf8.encode 63 = bs [63] := he
        clear hq2 he
        rcases (show (d.toNat : Int) < 32 ∨ (¬ (d.toNat : Int) < 32 ∧ (126 : Int) < d.toNat) ∨ (¬ (d.toNat : Int) < 32 ∧ ¬ (126 : Int) < d.toNat ∧ d = 39) by
            rcases hb with h | h | h
            · omega
            · omega
            · refine .inr (.inr ⟨by omega, by omega, UInt8.toNat_inj.1 (by rw [h]; rfl)⟩)) with h1 | ⟨h1, h2⟩ | ⟨h1, h2, h3⟩
        all_goals
          clear hb
          try subst h3
          go_wp2_with fail
          go_roundw
          case rel => exact ⟨k + 1, by rw [HT.out, HQ.out], by go_num, by omega, trivial⟩
          case measure => simp [intOf]; omega
      · have hq2 : qm d = d := by unfold qm; rw [if_neg hb]
        have HQ := Lib.hid hq2
        rw [hq2] at hadd he
        have h1 : ¬ (d.toNat : Int) < 32 := by omega
        have h2 : ¬ (126 : Int) < (d.toNat : Int) := by omega
        have h3 : ((d.toNat : Int) == 39) = false := by rw [beq_eq_false_iff_ne]; omega
        clear hq2 hb
        go_wp2_with fail
        go_roundw
        case rel => exact ⟨k + 1, by rw [HT.out, HQ.out], by go_num, by omega, trivial⟩
        case measure => simp [intOf]; omega
    · have hge' : ¬ (k : Int) < (N : Int) := by omega
      have hkN : k = N := by omega
      subst hkN
      rw [HP.out]
      have hpl : (pln s).length ≤ 1000 := by rw [pln_len, HN.out]; exact hs
      go_wp2
      go_ret
      exact ⟨str_ret (by first | rfl | (rw [show ∀ a b : List UInt8, bs (a ++ b) = bs a ++ bs b from fun a b => (bs_append a b).symm, show ∀ a b : List UInt8, bs (a ++ b) = bs a ++ bs b from fun a b => (bs_append a b).symm]; rfl)), rfl⟩
set_option maxRecDepth 100000 in
set_option maxHeartbeats 4000000 in
theorem reft_23 (s : List UInt8) (w : World) (hs : s.length ≤ 1000) :
    Calls Tryz.prog 10 #[.int .i64 23, .string (bs s)] w fun e w' => e = .returned (sv (tx 23 (pln s))) ∧ w = w' := by
  rw [tx_23]
  obtain ⟨N, hN⟩ : ∃ N, s.length = N := ⟨_, rfl⟩
  have HN := Lib.hid hN
  have HP : Hid ((pln s).take N = pln s) := Lib.hid (List.take_of_length_le (by rw [pln_len, hN]; exact Nat.le_refl _))
  rw [hN] at hs
  have hsz : (bs s).size = N := by rw [bs_size]; exact hN
  clear hN
  go_enter Tryz.func10, Tryz.ntmps10
  go_wp2_with fail
  go_loopw [5, 6] (fun x y wr => ∃ k, x = sv ((pln s).take k) ∧ y = .int .i64 (k : Nat) ∧ k ≤ N ∧ wr = w) (fun x y _ => N - (intOf y).toNat)
  case atStart => exact ⟨0, rfl, rfl, by omega, rfl⟩
  case round =>
    obtain ⟨k, rfl, rfl, hk, rfl⟩ := hrel
    rcases Nat.lt_or_ge k N with hlt | hge
    · have hkl : k < s.length := by rw [HN.out]; exact hlt
      have hlt' : (k : Int) < (N : Int) := by omega
      have htk : (pln s).take (k + 1) = (pln s).take k ++ [qm s[k]] := by
        rw [List.take_add_one, pln_get s k hkl]; rfl
      have hg1 : (bs s)[k]'(by rw [bs_size]; omega) = s[k] := bs_get' s k (by rw [bs_size]; omega) hkl
      have he := enc_ascii (qm s[k]) (by have := qm_range s[k]; omega)
      obtain ⟨d, hd⟩ : ∃ d, s[k] = d := ⟨_, rfl⟩
      rw [hd] at htk hg1 he
      obtain ⟨acc, hacc⟩ : ∃ acc, (pln s).take k = acc := ⟨_, rfl⟩
      rw [hacc] at htk ⊢
      have HT := Lib.hid htk
      have HA := Lib.hid hacc
      have hal : acc.length = k := by rw [← hacc, List.length_take, pln_len]; omega
      have hadd : ∀ w, (Op.stringOp .add (bs acc) (bs [qm d])).run Tryz.prog w = .ok (sv (acc ++ [qm d])) w := fun w => (run_string_add_sum w _ _ (by simp; omega)).trans (by rw [bs_append])
      have i0 : (0 : Int) ≤ (k : Int) := by omega
      clear htk hacc hd hal
      by_cases hb : d.toNat < 32 ∨ 126 < d.toNat ∨ d.toNat = 39
      · have hq2 : qm d = 63 := by unfold qm; rw [if_pos hb]
        have HQ := Lib.hid hq2
        rw [hq2] at hadd he
        have e63 : Utf8.encode 63 = bs [63] := he
        clear hq2 he
        rcases (show (d.toNat : Int) < 32 ∨ (¬ (d.toNat : Int) < 32 ∧ (126 : Int) < d.toNat) ∨ (¬ (d.toNat : Int) < 32 ∧ ¬ (126 : Int) < d.toNat ∧ d = 39) by
            rcases hb with h | h | h
            · omega
            · omega
            · refine .inr (.inr ⟨by omega, by omega, UInt8.toNat_inj.1 (by rw [h]; rfl)⟩)) with h1 | ⟨h1, h2⟩ | ⟨h1, h2, h3⟩
        all_goals
          clear hb
          try subst h3
          go_wp2_with fail
          go_roundw
          case rel => exact ⟨k + 1, by rw [HT.out, HQ.out], by go_num, by omega, trivial⟩
          case measure => simp [intOf]; omega
      · have hq2 : qm d = d := by unfold qm; rw [if_neg hb]
        have HQ := Lib.hid hq2
        rw [hq2] at hadd he
        have h1 : ¬ (d.toNat : Int) < 32 := by omega
        have h2 : ¬ (126 : Int) < (d.toNat : Int) := by omega
        have h3 : ((d.toNat : Int) == 39) = false := by rw [beq_eq_false_iff_ne]; omega
        clear hq2 hb
        go_wp2_with fail
        go_roundw
        case rel => exact ⟨k + 1, by rw [HT.out, HQ.out], by go_num, by omega, trivial⟩
        case measure => simp [intOf]; omega
    · have hge' : ¬ (k : Int) < (N : Int) := by omega
      have hkN : k = N := by omega
      subst hkN
      rw [HP.out]
      have hpl : (pln s).length ≤ 1000 := by rw [pln_len, HN.out]; exact hs
      go_wp2
      go_ret
      exact ⟨str_ret (by first | rfl | (rw [show ∀ a b : List UInt8, bs (a ++ b) = bs a ++ bs b from fun a b => (bs_append a b).symm, show ∀ a b : List UInt8, bs (a ++ b) = bs a ++ bs b from fun a b => (bs_append a b).symm]; rfl)), rfl⟩
set_option maxRecDepth 100000 in
set_option maxHeartbeats 4000000 in
theorem reft_24 (s : List UInt8) (w : World) (hs : s.length ≤ 1000) :
    Calls Tryz.prog 10 #[.int .i64 24, .string (bs s)] w fun e w' => e = .returned (sv (tx 24 (pln s))) ∧ w = w' := by
  rw [tx_24]
  obtain ⟨N, hN⟩ : ∃ N, s.length = N := ⟨_, rfl⟩
  have HN := Lib.hid hN
  have HP : Hid ((pln s).take N = pln s) := Lib.hid (List.take_of_length_le (by rw [pln_len, hN]; exact Nat.le_refl _))
  rw [hN] at hs
  have hsz : (bs s).size = N := by rw [bs_size]; exact hN
  clear hN
  go_enter Tryz.func10, Tryz.ntmps10
  go_wp2_with fail
  go_loopw [5, 6] (fun x y wr => ∃ k, x = sv ((pln s).take k) ∧ y = .int .i64 (k : Nat) ∧ k ≤ N ∧ wr = w) (fun x y _ => N - (intOf y).toNat)
  case atStart => exact ⟨0, rfl, rfl, by omega, rfl⟩
  case round =>
    obtain ⟨k, rfl, rfl, hk, rfl⟩ := hrel
    rcases Nat.lt_or_ge k N with hlt | hge
    · have hkl : k < s.length := by rw [HN.out]; exact hlt
      have hlt' : (k : Int) < (N : Int) := by omega
      have htk : (pln s).take (k + 1) = (pln s).take k ++ [qm s[k]] := by
        rw [List.take_add_one, pln_get s k hkl]; rfl
      have hg1 : (bs s)[k]'(by rw [bs_size]; omega) = s[k] := bs_get' s k (by rw [bs_size]; omega) hkl
      have he := enc_ascii (qm s[k]) (by have := qm_range s[k]; omega)
      obtain ⟨d, hd⟩ : ∃ d, s[k] = d := ⟨_, rfl⟩
      rw [hd] at htk hg1 he
      obtain ⟨acc, hacc⟩ : ∃ acc, (pln s).take k = acc := ⟨_, rfl⟩
      rw [hacc] at htk ⊢
      have HT := Lib.hid htk
      have HA := Lib.hid hacc
      have hal : acc.length = k := by rw [← hacc, List.length_take, pln_len]; omega
      have hadd : ∀ w, (Op.stringOp .add (bs acc) (bs [qm d])).run Tryz.prog w = .ok (sv (acc ++ [qm d])) w := fun w => (run_string_add_sum w _ _ (by simp; omega)).trans (by rw [bs_append])
      have i0 : (0 : Int) ≤ (k : Int) := by omega
      clear htk hacc hd hal
      by_cases hb : d.toNat < 32 ∨ 126 < d.toNat ∨ d.toNat = 39
      · have hq2 : qm d = 63 := by unfold qm; rw [if_pos hb]
        have HQ := Lib.hid hq2
        rw [hq2] at hadd he
        have e63 : Utf8.encode 63 = bs [63] := he
        clear hq2 he
        rcases (show (d.toNat : Int) < 32 ∨ (¬ (d.toNat : Int) < 32 ∧ (126 : Int) < d.toNat) ∨ (¬ (d.toNat : Int) < 32 ∧ ¬ (126 : Int) < d.toNat ∧ d = 39) by
            rcases hb with h | h | h
            · omega
            · omega
            · refine .inr (.inr ⟨by omega, by omega, UInt8.toNat_inj.1 (by rw [h]; rfl)⟩)) with h1 | ⟨h1, h2⟩ | ⟨h1, h2, h3⟩
        all_goals
          clear hb
          try subst h3
          go_wp2_with fail
          go_roundw
          case rel => exact ⟨k + 1, by rw [HT.out, HQ.out], by go_num, by omega, trivial⟩
          case measure => simp [intOf]; omega
      · have hq2 : qm d = d := by unfold qm; rw [if_neg hb]
        have HQ := Lib.hid hq2
        rw [hq2] at hadd he
        have h1 : ¬ (d.toNat : Int) < 32 := by omega
        have h2 : ¬ (126 : Int) < (d.toNat : Int) := by omega
        have h3 : ((d.toNat : Int) == 39) = false := by rw [beq_eq_false_iff_ne]; omega
        clear hq2 hb
        go_wp2_with fail
        go_roundw
        case rel => exact ⟨k + 1, by rw [HT.out, HQ.out], by go_num, by omega, trivial⟩
        case measure => simp [intOf]; omega
    · have hge' : ¬ (k : Int) < (N : Int) := by omega
      have hkN : k = N := by omega
      subst hkN
      rw [HP.out]
      have hpl : (pln s).length ≤ 1000 := by rw [pln_len, HN.out]; exact hs
      go_wp2
      go_ret
      exact ⟨str_ret (by first | rfl | (rw [show ∀ a b : List UInt8, bs (a ++ b) = bs a ++ bs b from fun a b => (bs_append a b).symm, show ∀ a b : List UInt8, bs (a ++ b) = bs a ++ bs b from fun a b => (bs_append a b).symm]; rfl)), rfl⟩
set_option maxRecDepth 100000 in
set_option maxHeartbeats 4000000 in
theorem reft_25 (s : List UInt8) (w : World) (hs : s.length ≤ 1000) :
    Calls Tryz.prog 10 #[.int .i64 25, .string (bs s)] w fun e w' => e = .returned (sv (tx 25 (pln s))) ∧ w = w' := by
  rw [tx_25]
  obtain ⟨N, hN⟩ : ∃ N, s.length = N := ⟨_, rfl⟩
  have HN := Lib.hid hN
  have HP : Hid ((pln s).take N = pln s) := Lib.hid (List.take_of_length_le (by rw [pln_len, hN]; exact Nat.le_refl _))
  rw [hN] at hs
  have hsz : (bs s).size = N := by rw [bs_size]; exact hN
  clear hN
  go_enter Tryz.func10, Tryz.ntmps10
  go_wp2_with fail
  go_loopw [5, 6] (fun x y wr => ∃ k, x = sv ((pln s).take k) ∧ y = .int .i64 (k : Nat) ∧ k ≤ N ∧ wr = w) (fun x y _ => N - (intOf y).toNat)
  case atStart => exact ⟨0, rfl, rfl, by omega, rfl⟩
  case round =>
    obtain ⟨k, rfl, rfl, hk, rfl⟩ := hrel
    rcases Nat.lt_or_ge k N with hlt | hge
    · have hkl : k < s.length := by rw [HN.out]; exact hlt
      have hlt' : (k : Int) < (N : Int) := by omega
      have htk : (pln s).take (k + 1) = (pln s).take k ++ [qm s[k]] := by
        rw [List.take_add_one, pln_get s k hkl]; rfl
      have hg1 : (bs s)[k]'(by rw [bs_size]; omega) = s[k] := bs_get' s k (by rw [bs_size]; omega) hkl
      have he := enc_ascii (qm s[k]) (by have := qm_range s[k]; omega)
      obtain ⟨d, hd⟩ : ∃ d, s[k] = d := ⟨_, rfl⟩
      rw [hd] at htk hg1 he
      obtain ⟨acc, hacc⟩ : ∃ acc, (pln s).take k = acc := ⟨_, rfl⟩
      rw [hacc] at htk ⊢
      have HT := Lib.hid htk
      have HA := Lib.hid hacc
      have hal : acc.length = k := by rw [← hacc, List.length_take, pln_len]; omega
      have hadd : ∀ w, (Op.stringOp .add (bs acc) (bs [qm d])).run Tryz.prog w = .ok (sv (acc ++ [qm d])) w := fun w => (run_string_add_sum w _ _ (by simp; omega)).trans (by rw [bs_append])
      have i0 : (0 : Int) ≤ (k : Int) := by omega
      clear htk hacc hd hal
      by_cases hb : d.toNat < 32 ∨ 126 < d.toNat ∨ d.toNat = 39
      · have hq2 : qm d = 63 := by unfold qm; rw [if_pos hb]
        have HQ := Lib.hid hq2
        rw [hq2] at hadd he
        have e63 : Utf8.encode 63 = bs [63] := he
        clear hq2 he
        rcases (show (d.toNat : Int) < 32 ∨ (¬ (d.toNat : Int) < 32 ∧ (126 : Int) < d.toNat) ∨ (¬ (d.toNat : Int) < 32 ∧ ¬ (126 : Int) < d.toNat ∧ d = 39) by
            rcases hb with h | h | h
            · omega
            · omega
            · refine .inr (.inr ⟨by omega, by omega, UInt8.toNat_inj.1 (by rw [h]; rfl)⟩)) with h1 | ⟨h1, h2⟩ | ⟨h1, h2, h3⟩
        all_goals
          clear hb
          try subst h3
          go_wp2_with fail
          go_roundw
          case rel => exact ⟨k + 1, by rw [HT.out, HQ.out], by go_num, by omega, trivial⟩
          case measure => simp [intOf]; omega
      · have hq2 : qm d = d := by unfold qm; rw [if_neg hb]
        have HQ := Lib.hid hq2
        rw [hq2] at hadd he
        have h1 : ¬ (d.toNat : Int) < 32 := by omega
        have h2 : ¬ (126 : Int) < (d.toNat : Int) := by omega
        have h3 : ((d.toNat : Int) == 39) = false := by rw [beq_eq_false_iff_ne]; omega
        clear hq2 hb
        go_wp2_with fail
        go_roundw
        case rel => exact ⟨k + 1, by rw [HT.out, HQ.out], by go_num, by omega, trivial⟩
        case measure => simp [intOf]; omega
    · have hge' : ¬ (k : Int) < (N : Int) := by omega
      have hkN : k = N := by omega
      subst hkN
      rw [HP.out]
      have hpl : (pln s).length ≤ 1000 := by rw [pln_len, HN.out]; exact hs
      go_wp2
      go_ret
      exact ⟨str_ret (by first | rfl | (rw [show ∀ a b : List UInt8, bs (a ++ b) = bs a ++ bs b from fun a b => (bs_append a b).symm, show ∀ a b : List UInt8, bs (a ++ b) = bs a ++ bs b from fun a b => (bs_append a b).symm]; rfl)), rfl⟩
set_option maxRecDepth 100000 in
set_option maxHeartbeats 4000000 in
theorem reft_other (c : Int) (h : ¬ c = 1 ∧ ¬ c = 2 ∧ ¬ c = 3 ∧ ¬ c = 4 ∧ ¬ c = 5 ∧ ¬ c = 6 ∧ ¬ c = 7 ∧ ¬ c = 8 ∧ ¬ c = 9 ∧ ¬ c = 10 ∧ ¬ c = 11 ∧ ¬ c = 12 ∧ ¬ c = 13 ∧ ¬ c = 14 ∧ ¬ c = 15 ∧ ¬ c = 16 ∧ ¬ c = 17 ∧ ¬ c = 18 ∧ ¬ c = 19 ∧ ¬ c = 20 ∧ ¬ c = 21 ∧ ¬ c = 22 ∧ ¬ c = 23 ∧ ¬ c = 24 ∧ ¬ c = 25) (s : List UInt8) (w : World) (hs : s.length ≤ 1000) :
    Calls Tryz.prog 10 #[.int .i64 c, .string (bs s)] w fun e w' => e = .returned (sv (tx c (pln s))) ∧ w = w' := by
  rw [tx_other c h]
  obtain ⟨h1, h2, h3, h4, h5, h6, h7, h8, h9, h10, h11, h12, h13, h14, h15, h16, h17, h18, h19, h20, h21, h22, h23, h24, h25⟩ := h
  have b1 : (c == 1) = false := by simpa using h1
  have b2 : (c == 2) = false := by simpa using h2
  have b3 : (c == 3) = false := by simpa using h3
  have b4 : (c == 4) = false := by simpa using h4
  have b5 : (c == 5) = false := by simpa using h5
  have b6 : (c == 6) = false := by simpa using h6
  have b7 : (c == 7) = false := by simpa using h7
  have b8 : (c == 8) = false := by simpa using h8
  have b9 : (c == 9) = false := by simpa using h9
  have b10 : (c == 10) = false := by simpa using h10
  have b11 : (c == 11) = false := by simpa using h11
  have b12 : (c == 12) = false := by simpa using h12
  have b13 : (c == 13) = false := by simpa using h13
  have b14 : (c == 14) = false := by simpa using h14
  have b15 : (c == 15) = false := by simpa using h15
  have b16 : (c == 16) = false := by simpa using h16
  have b17 : (c == 17) = false := by simpa using h17
  have b18 : (c == 18) = false := by simpa using h18
  have b19 : (c == 19) = false := by simpa using h19
  have b20 : (c == 20) = false := by simpa using h20
  have b21 : (c == 21) = false := by simpa using h21
  have b22 : (c == 22) = false := by simpa using h22
  have b23 : (c == 23) = false := by simpa using h23
  have b24 : (c == 24) = false := by simpa using h24
  have b25 : (c == 25) = false := by simpa using h25
  clear h1 h2 h3 h4 h5 h6 h7 h8 h9 h10 h11 h12 h13 h14 h15 h16 h17 h18 h19 h20 h21 h22 h23 h24 h25
  obtain ⟨N, hN⟩ : ∃ N, s.length = N := ⟨_, rfl⟩
  have HN := Lib.hid hN
  have HP : Hid ((pln s).take N = pln s) := Lib.hid (List.take_of_length_le (by rw [pln_len, hN]; exact Nat.le_refl _))
  rw [hN] at hs
  have hsz : (bs s).size = N := by rw [bs_size]; exact hN
  clear hN
  go_enter Tryz.func10, Tryz.ntmps10
  go_wp2_with fail
  go_loopw [5, 6] (fun x y wr => ∃ k, x = sv ((pln s).take k) ∧ y = .int .i64 (k : Nat) ∧ k ≤ N ∧ wr = w) (fun x y _ => N - (intOf y).toNat)
  case atStart => exact ⟨0, rfl, rfl, by omega, rfl⟩
  case round =>
    obtain ⟨k, rfl, rfl, hk, rfl⟩ := hrel
    rcases Nat.lt_or_ge k N with hlt | hge
    · have hkl : k < s.length := by rw [HN.out]; exact hlt
      have hlt' : (k : Int) < (N : Int) := by omega
      have htk : (pln s).take (k + 1) = (pln s).take k ++ [qm s[k]] := by
        rw [List.take_add_one, pln_get s k hkl]; rfl
      have hg1 : (bs s)[k]'(by rw [bs_size]; omega) = s[k] := bs_get' s k (by rw [bs_size]; omega) hkl
      have he := enc_ascii (qm s[k]) (by have := qm_range s[k]; omega)
      obtain ⟨d, hd⟩ : ∃ d, s[k] = d := ⟨_, rfl⟩
      rw [hd] at htk hg1 he
      obtain ⟨acc, hacc⟩ : ∃ acc, (pln s).take k = acc := ⟨_, rfl⟩
      rw [hacc] at htk ⊢
      have HT := Lib.hid htk
      have HA := Lib.hid hacc
      have hal : acc.length = k := by rw [← hacc, List.length_take, pln_len]; omega
      have hadd : ∀ w, (Op.stringOp .add (bs acc) (bs [qm d])).run Tryz.prog w = .ok (sv (acc ++ [qm d])) w := fun w => (run_string_add_sum w _ _ (by simp; omega)).trans (by rw [bs_append])
      have i0 : (0 : Int) ≤ (k : Int) := by omega
      clear htk hacc hd hal
      by_cases hb : d.toNat < 32 ∨ 126 < d.toNat ∨ d.toNat = 39
      · have hq2 : qm d = 63 := by unfold qm; rw [if_pos hb]
        have HQ := Lib.hid hq2
        rw [hq2] at hadd he
        have e63 : Utf8.encode 63 = bs [63] := he
        clear hq2 he
        rcases (show (d.toNat : Int) < 32 ∨ (¬ (d.toNat : Int) < 32 ∧ (126 : Int) < d.toNat) ∨ (¬ (d.toNat : Int) < 32 ∧ ¬ (126 : Int) < d.toNat ∧ d = 39) by
            rcases hb with h | h | h
            · omega
            · omega
            · refine .inr (.inr ⟨by omega, by omega, UInt8.toNat_inj.1 (by rw [h]; rfl)⟩)) with h1 | ⟨h1, h2⟩ | ⟨h1, h2, h3⟩
        all_goals
          clear hb
          try subst h3
          go_wp2_with fail
          go_roundw
          case rel => exact ⟨k + 1, by rw [HT.out, HQ.out], by go_num, by omega, trivial⟩
          case measure => simp [intOf]; omega
      · have hq2 : qm d = d := by unfold qm; rw [if_neg hb]
        have HQ := Lib.hid hq2
        rw [hq2] at hadd he
        have h1 : ¬ (d.toNat : Int) < 32 := by omega
        have h2 : ¬ (126 : Int) < (d.toNat : Int) := by omega
        have h3 : ((d.toNat : Int) == 39) = false := by rw [beq_eq_false_iff_ne]; omega
        clear hq2 hb
        go_wp2_with fail
        go_roundw
        case rel => exact ⟨k + 1, by rw [HT.out, HQ.out], by go_num, by omega, trivial⟩
        case measure => simp [intOf]; omega
    · have hge' : ¬ (k : Int) < (N : Int) := by omega
      have hkN : k = N := by omega
      subst hkN
      rw [HP.out]
      have hpl : (pln s).length ≤ 1000 := by rw [pln_len, HN.out]; exact hs
      go_wp2
      go_ret
      exact ⟨str_ret (by first | rfl | (rw [show ∀ a b : List UInt8, bs (a ++ b) = bs a ++ bs b from fun a b => (bs_append a b).symm, show ∀ a b : List UInt8, bs (a ++ b) = bs a ++ bs b from fun a b => (bs_append a b).symm]; rfl)), rfl⟩
theorem reft_any (c : Int) (s : List UInt8) (w : World) (hs : s.length ≤ 1000) :
    Calls Tryz.prog 10 #[.int .i64 c, .string (bs s)] w fun e w' => e = .returned (sv (tx c (pln s))) ∧ w = w' := by
  rcases codes_of c with rfl | rfl | rfl | rfl | rfl | rfl | rfl | rfl | rfl | rfl | rfl | rfl | rfl | rfl | rfl | rfl | rfl | rfl | rfl | rfl | rfl | rfl | rfl | rfl | rfl | h
  · exact reft_1 s w hs
  · exact reft_2 s w hs
  · exact reft_3 s w hs
  · exact reft_4 s w hs
  · exact reft_5 s w hs
  · exact reft_6 s w hs
  · exact reft_7 s w hs
  · exact reft_8 s w hs
  · exact reft_9 s w hs
  · exact reft_10 s w hs
  · exact reft_11 s w hs
  · exact reft_12 s w hs
  · exact reft_13 s w hs
  · exact reft_14 s w hs
  · exact reft_15 s w hs
  · exact reft_16 s w hs
  · exact reft_17 s w hs
  · exact reft_18 s w hs
  · exact reft_19 s w hs
  · exact reft_20 s w hs
  · exact reft_21 s w hs
  · exact reft_22 s w hs
  · exact reft_23 s w hs
  · exact reft_24 s w hs
  · exact reft_25 s w hs
  · exact reft_other c h s w hs
end Go.Proofs.YtnmchplabaoflaaGreatDoor
