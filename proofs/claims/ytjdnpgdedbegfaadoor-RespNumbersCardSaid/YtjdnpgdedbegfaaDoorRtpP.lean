/- The walk of the reference's number (tallboyref18). -/
import Derived.Test.YtjdnpgdedbegfaaDoorRtpO
import Derived.Test.YtjdnpgdedbegfaaDoorRefn
import Derived.Test.YtjdnpgdedbegfaaDoorRspH
namespace Go.Proofs.YtjdnpgdedbegfaaDoor
open Go.RowKit Go.Shelf
set_option linter.unusedVariables false

namespace Rsp
theorem crl_step {l : List UInt8} {i : Nat} {v : UInt8} (hv : l[i]? = some v) (h : ¬ (v = 13 ∧ l[i + 1]? = some 10)) : crl (l.drop i) = (crl (l.drop (i + 1))).map (fun q => (v :: q.1, q.2)) := by
  obtain ⟨hi, hx⟩ := List.getElem?_eq_some_iff.1 hv
  rw [List.drop_eq_getElem_cons hi, hx, crl, if_neg (by rw [List.head?_drop]; exact h)]
theorem crl_hit {l : List UInt8} {i : Nat} (hv : l[i]? = some 13) (h : l[i + 1]? = some 10) : crl (l.drop i) = some ([], l.drop (i + 2)) := by
  obtain ⟨hi, hx⟩ := List.getElem?_eq_some_iff.1 hv
  rw [List.drop_eq_getElem_cons hi, hx, crl, if_pos ⟨rfl, by rw [List.head?_drop]; exact h⟩, List.tail_drop]
theorem crl_short {l : List UInt8} (h : l.length ≤ 1) : crl l = none := by
  match l, h with
  | [], _ => rfl
  | [c], _ => simp [crl]
end Rsp
theorem bs_get18 (l : List UInt8) (i : Nat) (h : i < (bs l).size) (hl : i < l.length) : (bs l)[i]'h = l[i]'hl := by
  show (bs l).data[i] = _
  simp [bs]
/-- Where the loop of number stands. -/
def CAt (l : List UInt8) (i : Nat) : Prop := Rsp.crl (l.drop 1) = (Rsp.crl (l.drop i)).map (fun q => ((l.drop 1).take (i - 1) ++ q.1, q.2))
theorem CAt.start (l : List UInt8) : CAt l 1 := by
  unfold CAt
  cases Rsp.crl (l.drop 1) <;> simp
theorem CAt.next {l : List UInt8} {i : Nat} {v : UInt8} (h : CAt l i) (h1 : 1 ≤ i) (hv : l[i]? = some v) (hn : ¬ (v = 13 ∧ l[i + 1]? = some 10)) : CAt l (i + 1) := by
  unfold CAt at h ⊢
  rw [h, Rsp.crl_step hv hn]
  have hi : i + 1 - 1 = (i - 1) + 1 := by omega
  have hx : (l.drop 1)[i - 1]? = some v := by rw [List.getElem?_drop, show 1 + (i - 1) = i by omega]; exact hv
  obtain ⟨hj, hy⟩ := List.getElem?_eq_some_iff.1 hx
  rw [hi, List.take_succ_eq_append_getElem hj, hy]
  cases Rsp.crl (l.drop (i + 1)) <;> simp
theorem CAt.hit {l : List UInt8} {i : Nat} (h : CAt l i) (hv : l[i]? = some 13) (hn : l[i + 1]? = some 10) : Rsp.crl (l.drop 1) = some ((l.drop 1).take (i - 1), l.drop (i + 2)) := by
  unfold CAt at h
  rw [h, Rsp.crl_hit hv hn]; simp
theorem CAt.cut {l : List UInt8} {i : Nat} (h : CAt l i) (hi : l.length ≤ i + 1) : Rsp.crl (l.drop 1) = none := by
  unfold CAt at h
  rw [h, Rsp.crl_short (by rw [List.length_drop]; omega)]; rfl
/-- What number gives. -/
def nRet (L : Nat) : Option (List UInt8 × List UInt8) → Value
  | none => .tuple #[.int .i64 0, .int .i64 0, .bool false]
  | some (s, t) => .tuple #[.int .i64 ((Num.prs s).getD 0), .int .i64 ((L - t.length : Nat) : Int), .bool (Num.prs s).isSome]
theorem ex_part (l : List UInt8) (i : Nat) : (bs l).extract 1 i = bs ((l.drop 1).take (i - 1)) := by
  rw [bs_extract, bs_data]

set_option maxRecDepth 100000 in
set_option maxHeartbeats 8000000 in
theorem rnumber_any (l : List UInt8) (w : World) (hl : l.length ≤ 1048576) (h0 : 0 < l.length) :
    Calls Tryd.prog 41 #[.string (bs l)] w fun e w' => e = .returned (nRet l.length (Rsp.crl (l.drop 1))) ∧ w = w' := by
  obtain ⟨n, hn⟩ : ∃ n, l.length = n := ⟨_, rfl⟩
  have HN := Lib.hid hn
  have hsz : (bs l).size = n := by rw [bs_size]; exact hn
  rw [hn] at hl h0 ⊢
  have HC := Lib.hid (CAt.start l)
  obtain ⟨X, hX⟩ : ∃ X, Rsp.crl (l.drop 1) = X := ⟨_, rfl⟩
  have HXX := Lib.hid hX
  rw [hX]
  clear hn hX
  go_enter Tryd.func41, Tryd.ntmps41
  go_wp2_with fail
  go_loop [5] (fun x => ∃ i : Nat, 1 ≤ i ∧ i ≤ n ∧ x = .int .i64 (i : Nat) ∧ Hid (CAt l i)) (fun x => n - (intOf x).toNat)
  case atStart => exact ⟨1, Nat.le_refl _, h0, rfl, HC⟩
  case round =>
    clear HC
    obtain ⟨i, hi1, hin, rfl, HA⟩ := hrel
    by_cases hlt : i + 1 < n
    · have hiL : i < l.length := by rw [HN.out]; omega
      have hiL2 : i + 1 < l.length := by rw [HN.out]; omega
      obtain ⟨c, hc⟩ : ∃ c, l[i] = c := ⟨_, rfl⟩
      obtain ⟨d, hd⟩ : ∃ d, l[i + 1] = d := ⟨_, rfl⟩
      have hx0 : i < (bs l).size := by rw [hsz]; omega
      have hx1 : i + 1 < (bs l).size := by rw [hsz]; omega
      have hg1 : (bs l)[i]'hx0 = c := by rw [bs_get18 l i hx0 hiL, hc]
      have hg2 : (bs l)[i + 1]'hx1 = d := by rw [bs_get18 l (i + 1) hx1 hiL2, hd]
      have HV := Lib.hid (show l[i]? = some c by rw [List.getElem?_eq_getElem hiL, hc])
      have HW := Lib.hid (show l[i + 1]? = some d by rw [List.getElem?_eq_getElem hiL2, hd])
      have i1 : (i : Int) + 1 < (n : Int) := by omega
      clear hc hd hiL hiL2
      by_cases h13 : c = 13
      · subst h13
        by_cases h10 : d = 10
        · subst h10
          have HR := Lib.hid (HA.out.hit HV.out HW.out)
          have hex := ex_part l i
          have hpl : ((l.drop 1).take (i - 1)).length ≤ maxLen := by rw [List.length_take]; unfold maxLen; omega
          obtain ⟨S1, hS1⟩ : ∃ S, (l.drop 1).take (i - 1) = S := ⟨_, rfl⟩
          rw [hS1] at hex HR hpl
          have HP := Lib.hid (ref_parse (bs S1) w (by rw [bs_size]; exact hpl))
          rw [bs_data] at HP
          obtain ⟨P0, hP0⟩ : ∃ P, Num.prs S1 = P := ⟨_, rfl⟩
          have HP0 := Lib.hid hP0
          rw [hP0] at HP
          clear hS1 hpl hP0
          have HT := Lib.hid (show n - (l.drop (i + 2)).length = i + 2 by rw [List.length_drop, HN.out]; omega)
          have i2 : (1 : Int) ≤ (i : Int) := by omega
          go_wp2_with fail
          refine HP.out.mono ?_
          rintro e w' ⟨rfl, rfl⟩
          go_wp2_with fail
          go_ret3
          refine ⟨?_, rfl⟩
          rw [← HXX.out, HR.out]
          show _ = Ending.returned (.tuple #[.int .i64 ((Num.prs S1).getD 0), .int .i64 ((n - (l.drop (i + 2)).length : Nat) : Int), .bool (Num.prs S1).isSome])
          rw [HT.out, HP0.out]; rfl
        · have q0 := u8_f (c := d) 10 rfl h10
          have HX := Lib.hid (HA.out.next hi1 HV.out (fun e => h10 (by have := e.2; rw [HW.out] at this; exact Option.some.inj this)))
          go_wp2_with fail
          go_round
          case rel => exact ⟨i + 1, by omega, by omega, by go_num, HX⟩
          case measure => simp [intOf]; omega
      · have q0 := u8_f (c := c) 13 rfl h13
        have HX := Lib.hid (HA.out.next hi1 HV.out (fun e => h13 e.1))
        go_wp2_with fail
        go_round
        case rel => exact ⟨i + 1, by omega, by omega, by go_num, HX⟩
        case measure => simp [intOf]; omega
    · have HR := Lib.hid (HA.out.cut (by rw [HN.out]; omega))
      have i1 : ¬ (i : Int) + 1 < (n : Int) := by omega
      go_wp2_with fail
      go_ret3
      refine ⟨?_, rfl⟩
      rw [← HXX.out, HR.out]; rfl
end Go.Proofs.YtjdnpgdedbegfaaDoor
