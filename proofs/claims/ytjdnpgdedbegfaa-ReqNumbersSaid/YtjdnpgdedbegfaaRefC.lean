/- The walk of the reference's Words. -/
import Derived.Test.YtjdnpgdedbegfaaRefB
namespace Go.Proofs.Ytjdnpgdedbegfaa
open Go.RowKit Go.Shelf
set_option linter.unusedVariables false

theorem ref_blank_t {c : UInt8} {n : Int} (w : World) (hn : (c.toNat : Int) = n) (h : Rq.blank c = true) : Calls Try.prog 34 #[.int .u8 n] w fun e w' => e = .returned (.bool true) ∧ w = w' :=
  (ref_blank c n w hn).mono fun e w' ⟨he, hw⟩ => ⟨by rw [he, h], hw⟩
theorem ref_blank_f {c : UInt8} {n : Int} (w : World) (hn : (c.toNat : Int) = n) (h : Rq.blank c = false) : Calls Try.prog 34 #[.int .u8 n] w fun e w' => e = .returned (.bool false) ∧ w = w' :=
  (ref_blank c n w hn).mono fun e w' ⟨he, hw⟩ => ⟨by rw [he, h], hw⟩
theorem ref_quoted_no {l : List UInt8} {q : UInt8} {z : Int} (w : World) (hz : (q.toNat : Int) = z) (hq : q = 34 ∨ q = 39) (hl : l.length ≤ 1048576) (h : Rq.quoted q l = none) :
    Calls Try.prog 35 #[.string (bs l), .int .u8 z] w fun e w' => e = .returned (.tuple #[.string ⟨#[]⟩, .string ⟨#[]⟩, .bool false]) ∧ Below w.heap.size w w' :=
  (ref_quoted l q z w hz hq hl).mono fun e w' ⟨he, hw⟩ => ⟨by rw [he, h]; rfl, hw⟩
theorem ref_quoted_yes {l p r : List UInt8} {q : UInt8} {z : Int} (w : World) (hz : (q.toNat : Int) = z) (hq : q = 34 ∨ q = 39) (hl : l.length ≤ 1048576) (h : Rq.quoted q l = some (p, r)) :
    Calls Try.prog 35 #[.string (bs l), .int .u8 z] w fun e w' => e = .returned (.tuple #[sv p, sv r, .bool true]) ∧ Below w.heap.size w w' :=
  (ref_quoted l q z w hz hq hl).mono fun e w' ⟨he, hw⟩ => ⟨by rw [he, h]; rfl, hw⟩
/-- What the reference's Words gives. -/
def RWRet (w w' : World) (e : Ending) (o : Option (List (List UInt8))) : Prop :=
  match o with
  | none => ∃ v, e = .returned (.tuple #[v, .bool false])
  | some ws => ∃ v, e = .returned (.tuple #[v, .bool true]) ∧ Own w' w.heap.size 9 1 v ws.length (ws.map sv)
theorem hd_at {L X : List UInt8} {k : Nat} (hX : L.drop k = X) (h0 : 0 < (bs X).size) (hk : k < L.length) : (bs X)[0]'h0 = L[k] := by
  have hx : 0 < X.length := by rw [← hX, List.length_drop]; omega
  rw [bs_get X 0 h0 hx]; simp [← hX]

set_option maxRecDepth 100000 in
set_option maxHeartbeats 16000000 in
theorem ref_words (L : List UInt8) (w : World) (hl : L.length ≤ 1048576) :
    Calls Try.prog 26 #[.string (bs L)] w fun e w' => RWRet w w' e (Rq.words L) ∧ Below w.heap.size w w' := by
  obtain ⟨i0, hi, hy0, hy1, hy2⟩ := info_parts strinfo
  obtain ⟨n, hn⟩ : ∃ n, L.length = n := ⟨_, rfl⟩
  have HN := Lib.hid hn
  rw [hn] at hl
  clear hn
  have HML := Lib.hid (show ∀ j, lenOf (sv (L.drop j)) = n - j from fun j => by rw [lenOf_sv, List.length_drop, HN.out])
  go_enter Try.func26, Try.ntmps26
  go_wp2_with fail
  go_loopw [0, 4] (fun s v wr => ∃ (k : Nat) (acc : List (List UInt8)), k ≤ n ∧ acc.length ≤ k ∧ s = sv (L.drop k) ∧ Own wr w.heap.size 9 1 v acc.length (acc.map sv) ∧ Hid (Rq.WsAt L k acc) ∧ Below w.heap.size w wr) (fun s _ _ => lenOf s)
  case atStart => exact ⟨0, [], Nat.zero_le _, Nat.le_refl _, rfl, Own.nil _ _ _ _, Lib.hid (Rq.WsAt.start L), Below.refl _ _⟩
  case round =>
    obtain ⟨k1, acc, hk1, hal, rfl, hob, HW1, hbel⟩ := hrel
    have hbs := hbel.size
    obtain ⟨A, cc, rfl⟩ := hob.sliceForm
    obtain ⟨wo, rfl⟩ : ∃ wo : World, wo = wr := ⟨_, rfl⟩
    go_wp2_with fail
    go_loopw [0] (fun s wr => ∃ k : Nat, k1 ≤ k ∧ k ≤ n ∧ s = sv (L.drop k) ∧ Hid (Rq.WsAt L k acc) ∧ wr = wo) (fun s _ => lenOf s)
    case atStart => exact ⟨k1, Nat.le_refl _, hk1, rfl, HW1, rfl⟩
    case round =>
      obtain ⟨k, hkk, hk, rfl, HW, rfl⟩ := hrel
      obtain ⟨X, hX⟩ : ∃ X, L.drop k = X := ⟨_, rfl⟩
      obtain ⟨m, hm⟩ : ∃ m, n - k = m := ⟨_, rfl⟩
      have hXl : X.length = m := by rw [← hX, List.length_drop, HN.out]; exact hm
      have hsz : (bs X).size = m := by rw [bs_size]; exact hXl
      have HXM := Lib.hid (show lenOf (sv X) = n - k by rw [lenOf_sv, hXl]; exact hm.symm)
      have HXX := Lib.hid hX
      rw [hX]
      by_cases hkn : k < n
      · have hkL : k < L.length := by rw [HN.out]; exact hkn
        have hx0 : 0 < (bs X).size := by rw [hsz]; omega
        obtain ⟨c, hc⟩ : ∃ c, L[k] = c := ⟨_, rfl⟩
        have hg1 : (bs X)[0]'hx0 = c := by rw [hd_at hX hx0 hkL, hc]
        have hex1 : (bs X).extract 1 m = bs (L.drop (k + 1)) := by rw [← hXl, ex_drop, ← hX, List.drop_drop]
        have i1 : (0 : Int) < (m : Int) := by omega
        have i2 : (1 : Int) ≤ (m : Int) := by omega
        rcases hb : Rq.blank c with _ | _
        · have HB := Lib.hid hb
          have i0z : ((m : Int) == 0) = false := by simpa using (by omega : ¬ m = 0)
          have HCL := Lib.hid hc
          have hbL : Rq.blank L[k] = false := by rw [hc]; exact hb
          have HBL := Lib.hid hbL
          clear hX hm hc hb hbL
          go_wp2_with (go_at_call 34; refine (ref_blank_f _ rfl HB.out).mono ?_; rintro e w' ⟨rfl, rfl⟩)
          have HX2 := Lib.hid (show sv X = sv (L.drop (k + 0)) by rw [← HXX.out]; rfl)
          clear hex1 hg1
          obtain ⟨wo2, rfl⟩ : ∃ wo2 : World, wo2 = wr := ⟨_, rfl⟩
          go_loopw [0, 5] (fun s wd wr => ∃ (i : Nat) (wa : List UInt8), k + i ≤ n ∧ wa.length ≤ i ∧ s = sv (L.drop (k + i)) ∧ wd = sv wa ∧ Hid (Rq.WAt (L.drop k) i wa) ∧ Below wo2.heap.size wo2 wr) (fun s _ _ => lenOf s)
          case atStart => exact ⟨0, [], hk, Nat.le_refl _, HX2.out, rfl, Lib.hid (Rq.WAt.start _), Below.refl _ _⟩
          case round =>
            clear HX2 hXl hsz HXM HXX hx0 i1 i2 i0z
            obtain ⟨i, wa, hki, hwa, rfl, rfl, HWA, hb2⟩ := hrel
            have hob2 := hob.below_ hb2
            have hbel2 := below_trans hbel hb2
            have hbs2 := hbel2.size
            obtain ⟨X, hX⟩ : ∃ X, L.drop (k + i) = X := ⟨_, rfl⟩
            obtain ⟨m, hm⟩ : ∃ m, n - (k + i) = m := ⟨_, rfl⟩
            have hXl : X.length = m := by rw [← hX, List.length_drop, HN.out]; exact hm
            have hsz : (bs X).size = m := by rw [bs_size]; exact hXl
            have HXM := Lib.hid (show lenOf (sv X) = n - (k + i) by rw [lenOf_sv, hXl]; exact hm.symm)
            rw [hX]
            by_cases hkn2 : k + i < n
            · have hkL2 : k + i < L.length := by rw [HN.out]; exact hkn2
              have hdl : i < (L.drop k).length := by rw [List.length_drop, HN.out]; omega
              have hx0 : 0 < (bs X).size := by rw [hsz]; omega
              obtain ⟨c2, hc2⟩ : ∃ c, L[k + i] = c := ⟨_, rfl⟩
              have hdc : (L.drop k)[i]'hdl = c2 := by rw [List.getElem_drop]; exact hc2
              have hg1 : (bs X)[0]'hx0 = c2 := by rw [hd_at hX hx0 hkL2, hc2]
              have hex1 : (bs X).extract 1 m = bs (L.drop (k + (i + 1))) := by rw [← hXl, ex_drop, ← hX, List.drop_drop]; rfl
              have hex0 : (bs X).extract 0 1 = bs [c2] := by
                rw [bs_extract, bs_data, List.drop_zero, ← hX, Rq.drop_step hkL2, hc2]; rfl
              have i1 : (0 : Int) < (m : Int) := by omega
              have i2 : (1 : Int) ≤ (m : Int) := by omega
              rcases hb : Rq.blank c2 with _ | _
              · have HB2 := Lib.hid hb
                by_cases hq : c2 ≠ 34 ∧ c2 ≠ 39
                · have q1 := u8_nt (c := c2) 34 rfl hq.1
                  have q2 := u8_nt (c := c2) 39 rfl hq.2
                  have HC := Lib.hid (show Rq.WAt (L.drop k) (i + 1) (wa ++ [c2]) from by have := HWA.out.next hdl (by rw [hdc]; exact hb) (by rw [hdc]; exact hq); rw [hdc] at this; exact this)
                  have a1 : ∀ w, (Op.stringOp .add (bs wa) (bs [c2])).run Try.prog w = .ok (sv (wa ++ [c2])) w := fun w => add_bs (by simp; omega) w
                  clear hX hm hc2 hdc hb hq hdl
                  go_wp2_with (go_at_call 34; refine (ref_blank_f _ rfl HB2.out).mono ?_; rintro e w' ⟨rfl, rfl⟩)
                  go_roundw
                  case rel =>
                    first
                      | exact ⟨i + 1, wa ++ [c2], by omega, by rw [List.length_append, List.length_singleton]; omega, rfl, rfl, HC, hb2⟩
                      | ((repeat apply Exists.intro); exact ⟨⟨i + 1, wa ++ [c2], by omega, by rw [List.length_append, List.length_singleton]; omega, rfl, rfl, HC, hb2⟩, rfl⟩)
                  case measure => show lenOf (sv (L.drop (k + (i + 1)))) < lenOf (sv X); rw [HML.out, HXM.out]; omega
                · have hd1 : L.drop (k + (i + 1)) = (L.drop k).drop (i + 1) := by rw [List.drop_drop]
                  have hnb : Rq.blank ((L.drop k)[i]'hdl) = false := by rw [hdc]; exact hb
                  have hnq : ¬ ((L.drop k)[i]'hdl ≠ 34 ∧ (L.drop k)[i]'hdl ≠ 39) := by rw [hdc]; exact hq
                  have hS0 : Below wr.heap.size wr wr := Below.refl _ _
                  have hSd : Below wr.heap.size wr wr.drew := hS0.drew
                  rcases hqq : Rq.quoted c2 (L.drop (k + (i + 1))) with _ | ⟨qp, qr⟩
                  · have HR := Lib.hid (Rq.words_none (HW.out.bad hkL HBL.out (HWA.out.bad hdl hnb hnq (by rw [hdc, ← hd1]; exact hqq))))
                    have HQQ := Lib.hid hqq
                    have hql := Lib.hid (show (L.drop (k + (i + 1))).length ≤ 1048576 by rw [List.length_drop, HN.out]; omega)
                    rcases (show c2 = 34 ∨ c2 = 39 from Classical.byContradiction fun h => hq ⟨fun e => h (.inl e), fun e => h (.inr e)⟩) with rfl | rfl
                    · clear hX hm hc2 hdc hb hq hdl hqq hd1 hnb hnq
                      go_wp2_with (go_at_call 34; refine (ref_blank_f _ rfl HB2.out).mono ?_; rintro e w' ⟨rfl, rfl⟩)
                      go_region_held3 (fun w' => Below wr.heap.size wr w') (first | exact hS0 | exact hSd | exact hS1)
                        (first
                          | (go_at_call 35; refine (ref_quoted_no _ rfl (.inl rfl) hql.out HQQ.out).mono ?_; rintro e w3 ⟨rfl, hb3⟩; have hS1 := below_trans hSd hb3))
                      go_wp2_with fail
                      go_ret2
                      exact ⟨by rw [HR.out]; exact ⟨_, rfl⟩, below_trans hbel2 hS1⟩
                    · clear hX hm hc2 hdc hb hq hdl hqq hd1 hnb hnq
                      go_wp2_with (go_at_call 34; refine (ref_blank_f _ rfl HB2.out).mono ?_; rintro e w' ⟨rfl, rfl⟩)
                      go_region_held3 (fun w' => Below wr.heap.size wr w') (first | exact hS0 | exact hSd | exact hS1)
                        (first
                          | (go_at_call 35; refine (ref_quoted_no _ rfl (.inr rfl) hql.out HQQ.out).mono ?_; rintro e w3 ⟨rfl, hb3⟩; have hS1 := below_trans hSd hb3))
                      go_wp2_with fail
                      go_ret2
                      exact ⟨by rw [HR.out]; exact ⟨_, rfl⟩, below_trans hbel2 hS1⟩
                  · have hpl := quoted_plen hqq
                    have hsuf := Rq.suf_drop (Rq.quoted_suf hqq).1
                    have hle := (Rq.quoted_suf hqq).2
                    have hdl2 : (L.drop (k + (i + 1))).length = n - (k + (i + 1)) := by rw [List.length_drop, HN.out]
                    obtain ⟨j, hj⟩ : ∃ j, i + 1 + ((L.drop (k + (i + 1))).length - qr.length) = j := ⟨_, rfl⟩
                    have hr : qr = L.drop (k + j) := by rw [hsuf, List.drop_drop]; congr 1; omega
                    have hj1 : i + 1 < j ∨ i + 1 = j := by omega
                    have hjn : k + j ≤ n := by omega
                    have hij : i < j := by omega
                    have hpw : wa.length + qp.length ≤ j := by omega
                    have HQQ := Lib.hid hqq
                    have hql := Lib.hid (show (L.drop (k + (i + 1))).length ≤ 1048576 by rw [hdl2]; omega)
                    have a1 : ∀ w, (Op.stringOp .add (bs wa) (bs qp)).run Try.prog w = .ok (sv (wa ++ qp)) w := fun w => add_bs (by omega) w
                    obtain ⟨mr, hmr⟩ : ∃ mr, qr.length = mr := ⟨_, rfl⟩
                    have hmr2 : mr = n - (k + j) := by rw [← hmr, hr, List.length_drop, HN.out]
                    have hrz : (bs qr).size = mr := by rw [bs_size]; exact hmr
                    have HRJ := Lib.hid (show sv qr = sv (L.drop (k + j)) by rw [hr])
                    have HQN := Lib.hid (show n - (k + j) < n - (k + i) by omega)
                    by_cases hr0 : mr = 0
                    · have hen : Rq.ends qr = true := by have : qr = [] := List.eq_nil_of_length_eq_zero (by omega); rw [this]; rfl
                      have HC := Lib.hid (WAt_over HWA.out hdl hnb hnq (by rw [hdc, ← hd1]; exact hqq) hen (show qr = (L.drop k).drop j by rw [List.drop_drop]; exact hr) (by rw [List.length_drop, HN.out]; omega))
                      have i3 : (mr : Int) ≤ 0 := by omega
                      rcases (show c2 = 34 ∨ c2 = 39 from Classical.byContradiction fun h => hq ⟨fun e => h (.inl e), fun e => h (.inr e)⟩) with rfl | rfl
                      · clear hX hm hc2 hdc hb hq hdl hqq hd1 hnb hnq hpl hsuf hle hdl2 hj hr hmr2
                        go_wp2_with (go_at_call 34; refine (ref_blank_f _ rfl HB2.out).mono ?_; rintro e w' ⟨rfl, rfl⟩)
                        go_region_held3 (fun w' => Below wr.heap.size wr w') (first | exact hS0 | exact hSd | exact hS1)
                          (first
                            | (go_at_call 35; refine (ref_quoted_yes _ rfl (.inl rfl) hql.out HQQ.out).mono ?_; rintro e w3 ⟨rfl, hb3⟩; have hS1 := below_trans hSd hb3))
                        go_wp2_with fail
                        go_roundw
                        case rel =>
                          first
                            | exact ⟨j, wa ++ qp, hjn, by rw [List.length_append]; omega, HRJ.out, rfl, HC, below_trans hb2 hS1⟩
                            | ((repeat apply Exists.intro); exact ⟨⟨j, wa ++ qp, hjn, by rw [List.length_append]; omega, HRJ.out, rfl, HC, below_trans hb2 hS1⟩, rfl⟩)
                        case measure => show lenOf (sv qr) < lenOf (sv X); rw [HRJ.out, HML.out, HXM.out]; exact HQN.out
                      · clear hX hm hc2 hdc hb hq hdl hqq hd1 hnb hnq hpl hsuf hle hdl2 hj hr hmr2
                        go_wp2_with (go_at_call 34; refine (ref_blank_f _ rfl HB2.out).mono ?_; rintro e w' ⟨rfl, rfl⟩)
                        go_region_held3 (fun w' => Below wr.heap.size wr w') (first | exact hS0 | exact hSd | exact hS1)
                          (first
                            | (go_at_call 35; refine (ref_quoted_yes _ rfl (.inr rfl) hql.out HQQ.out).mono ?_; rintro e w3 ⟨rfl, hb3⟩; have hS1 := below_trans hSd hb3))
                        go_wp2_with fail
                        go_roundw
                        case rel =>
                          first
                            | exact ⟨j, wa ++ qp, hjn, by rw [List.length_append]; omega, HRJ.out, rfl, HC, below_trans hb2 hS1⟩
                            | ((repeat apply Exists.intro); exact ⟨⟨j, wa ++ qp, hjn, by rw [List.length_append]; omega, HRJ.out, rfl, HC, below_trans hb2 hS1⟩, rfl⟩)
                        case measure => show lenOf (sv qr) < lenOf (sv X); rw [HRJ.out, HML.out, HXM.out]; exact HQN.out
                    · have hrL : k + j < L.length := by rw [HN.out]; omega
                      have hr0' : 0 < (bs qr).size := by rw [hrz]; omega
                      obtain ⟨d, hd⟩ : ∃ d, L[k + j] = d := ⟨_, rfl⟩
                      have hg3 : (bs qr)[0]'hr0' = d := by rw [hd_at hr.symm hr0' hrL, hd]
                      have hen : Rq.ends qr = Rq.blank d := by rw [hr, Rq.drop_step hrL, hd]; rfl
                      have i3 : (0 : Int) < (mr : Int) := by omega
                      rcases hbd : Rq.blank d with _ | _
                      · have HBD := Lib.hid hbd
                        have HR := Lib.hid (Rq.words_none (HW.out.bad hkL HBL.out (HWA.out.late hdl hnb hnq (by rw [hdc, ← hd1]; exact hqq) (by rw [hen, hbd]))))
                        rcases (show c2 = 34 ∨ c2 = 39 from Classical.byContradiction fun h => hq ⟨fun e => h (.inl e), fun e => h (.inr e)⟩) with rfl | rfl
                        · clear hX hm hc2 hdc hb hq hdl hqq hd1 hnb hnq hpl hsuf hle hdl2 hj hr hmr2
                          go_wp2_with (go_at_call 34; refine (ref_blank_f _ rfl HB2.out).mono ?_; rintro e w' ⟨rfl, rfl⟩)
                          go_region_held3 (fun w' => Below wr.heap.size wr w') (first | exact hS0 | exact hSd | exact hS1)
                            (first
                              | (go_at_call 35; refine (ref_quoted_yes _ rfl (.inl rfl) hql.out HQQ.out).mono ?_; rintro e w3 ⟨rfl, hb3⟩; have hS1 := below_trans hSd hb3))
                          clear hrL hd hen hbd
                          go_wp2_with (go_at_call 34; refine (ref_blank_f _ rfl HBD.out).mono ?_; rintro e w' ⟨rfl, rfl⟩)
                          go_ret2
                          exact ⟨by rw [HR.out]; exact ⟨_, rfl⟩, below_trans hbel2 hS1⟩
                        · clear hX hm hc2 hdc hb hq hdl hqq hd1 hnb hnq hpl hsuf hle hdl2 hj hr hmr2
                          go_wp2_with (go_at_call 34; refine (ref_blank_f _ rfl HB2.out).mono ?_; rintro e w' ⟨rfl, rfl⟩)
                          go_region_held3 (fun w' => Below wr.heap.size wr w') (first | exact hS0 | exact hSd | exact hS1)
                            (first
                              | (go_at_call 35; refine (ref_quoted_yes _ rfl (.inr rfl) hql.out HQQ.out).mono ?_; rintro e w3 ⟨rfl, hb3⟩; have hS1 := below_trans hSd hb3))
                          clear hrL hd hen hbd
                          go_wp2_with (go_at_call 34; refine (ref_blank_f _ rfl HBD.out).mono ?_; rintro e w' ⟨rfl, rfl⟩)
                          go_ret2
                          exact ⟨by rw [HR.out]; exact ⟨_, rfl⟩, below_trans hbel2 hS1⟩
                      · have HBD := Lib.hid hbd
                        have HC := Lib.hid (WAt_over HWA.out hdl hnb hnq (by rw [hdc, ← hd1]; exact hqq) (by rw [hen, hbd]) (show qr = (L.drop k).drop j by rw [List.drop_drop]; exact hr) (by rw [List.length_drop, HN.out]; omega))
                        rcases (show c2 = 34 ∨ c2 = 39 from Classical.byContradiction fun h => hq ⟨fun e => h (.inl e), fun e => h (.inr e)⟩) with rfl | rfl
                        · clear hX hm hc2 hdc hb hq hdl hqq hd1 hnb hnq hpl hsuf hle hdl2 hj hr hmr2
                          go_wp2_with (go_at_call 34; refine (ref_blank_f _ rfl HB2.out).mono ?_; rintro e w' ⟨rfl, rfl⟩)
                          go_region_held3 (fun w' => Below wr.heap.size wr w') (first | exact hS0 | exact hSd | exact hS1)
                            (first
                              | (go_at_call 35; refine (ref_quoted_yes _ rfl (.inl rfl) hql.out HQQ.out).mono ?_; rintro e w3 ⟨rfl, hb3⟩; have hS1 := below_trans hSd hb3))
                          clear hrL hd hen hbd
                          go_wp2_with (go_at_call 34; refine (ref_blank_t _ rfl HBD.out).mono ?_; rintro e w' ⟨rfl, rfl⟩)
                          go_roundw
                          case rel =>
                            first
                              | exact ⟨j, wa ++ qp, hjn, by rw [List.length_append]; omega, HRJ.out, rfl, HC, below_trans hb2 hS1⟩
                              | ((repeat apply Exists.intro); exact ⟨⟨j, wa ++ qp, hjn, by rw [List.length_append]; omega, HRJ.out, rfl, HC, below_trans hb2 hS1⟩, rfl⟩)
                          case measure => show lenOf (sv qr) < lenOf (sv X); rw [HRJ.out, HML.out, HXM.out]; exact HQN.out
                        · clear hX hm hc2 hdc hb hq hdl hqq hd1 hnb hnq hpl hsuf hle hdl2 hj hr hmr2
                          go_wp2_with (go_at_call 34; refine (ref_blank_f _ rfl HB2.out).mono ?_; rintro e w' ⟨rfl, rfl⟩)
                          go_region_held3 (fun w' => Below wr.heap.size wr w') (first | exact hS0 | exact hSd | exact hS1)
                            (first
                              | (go_at_call 35; refine (ref_quoted_yes _ rfl (.inr rfl) hql.out HQQ.out).mono ?_; rintro e w3 ⟨rfl, hb3⟩; have hS1 := below_trans hSd hb3))
                          clear hrL hd hen hbd
                          go_wp2_with (go_at_call 34; refine (ref_blank_t _ rfl HBD.out).mono ?_; rintro e w' ⟨rfl, rfl⟩)
                          go_roundw
                          case rel =>
                            first
                              | exact ⟨j, wa ++ qp, hjn, by rw [List.length_append]; omega, HRJ.out, rfl, HC, below_trans hb2 hS1⟩
                              | ((repeat apply Exists.intro); exact ⟨⟨j, wa ++ qp, hjn, by rw [List.length_append]; omega, HRJ.out, rfl, HC, below_trans hb2 hS1⟩, rfl⟩)
                          case measure => show lenOf (sv qr) < lenOf (sv X); rw [HRJ.out, HML.out, HXM.out]; exact HQN.out
              · have HB2 := Lib.hid hb
                have HXX2 := Lib.hid hX
                have HWD := Lib.hid (show Rq.word (L.drop k) = some (wa, L.drop (k + i)) by
                  have := HWA.out.blank_ hdl (by rw [hdc]; exact hb)
                  rw [List.drop_drop] at this; exact this)
                have HN2 := HW.out.next (n := i) hkL HBL.out HWD.out (by rw [List.length_drop, List.length_drop, HN.out]; omega)
                have HC := Lib.hid HN2.1
                have hpi := HN2.2
                have hakb : acc.length + 1 ≤ k + i := by omega
                clear HN2 hX hm hc2 hdc hb hdl
                go_wp2_with (first
                  | (go_at_call 34; refine (ref_blank_t _ rfl HB2.out).mono ?_; rintro e w' ⟨rfl, rfl⟩)
                  | (at_builtin; refine wpList_append_Own _ rfl (.tmp 75) (.tmp 77) _ _ rfl w.heap.size 9 i0 _ 1 16 Try.underlying33 hi hy0 hy1 hy2 rfl (.slice A acc.length cc) acc.length (acc.map sv) rfl (hob2.alloc _) _ 1 [sv wa] rfl (Src.own (Own.lit (base := w.heap.size) wr #[sv wa] 1 hbs2 (by decide) rfl) Try.underlying33 (by intro v hv; simp at hv; subst hv; rfl) (by decide)) (by unfold maxLen; omega) (by omega) (by simp; omega) ?_; intro v1 w1 hO hgr hat))
                have hO1 : Own w1 w.heap.size 9 1 v1 (acc ++ [wa]).length ((acc ++ [wa]).map sv) := by rw [List.map_append, List.length_append]; exact hO
                have hb9 : Below w.heap.size w w1 := (hbel2.alloc hbs2 _).grown hgr (by simp; omega) (fun k hk => (hob2.lt k hk).1)
                go_roundw
                case rel =>
                  first
                    | exact ⟨k + i, acc ++ [wa], hki, by rw [List.length_append, List.length_singleton]; omega, by rw [HXX2.out], hO1, HC, hb9⟩
                    | ((repeat apply Exists.intro); exact ⟨⟨k + i, acc ++ [wa], hki, by rw [List.length_append, List.length_singleton]; omega, by rw [HXX2.out], hO1, HC, hb9⟩, rfl⟩)
                case measure => show lenOf (sv X) < lenOf (sv (L.drop k1)); rw [HXM.out, HML.out]; omega
            · have HXX2 := Lib.hid hX
              have HB2 := True.intro
              have i1 : (m : Int) ≤ 0 := by omega
              have HWD := Lib.hid (show Rq.word (L.drop k) = some (wa, L.drop (k + i)) by
                have := HWA.out.out (by rw [List.length_drop, HN.out]; omega)
                rw [List.drop_drop] at this; exact this)
              have HN2 := HW.out.next (n := i) hkL HBL.out HWD.out (by rw [List.length_drop, List.length_drop, HN.out]; omega)
              have HC := Lib.hid HN2.1
              have hpi := HN2.2
              have hakb : acc.length + 1 ≤ k + i := by omega
              clear HN2 hX hm hkn2
              go_wp2_with (first
                | (go_at_call 34; refine (ref_blank_t _ rfl HB2.out).mono ?_; rintro e w' ⟨rfl, rfl⟩)
                | (at_builtin; refine wpList_append_Own _ rfl (.tmp 75) (.tmp 77) _ _ rfl w.heap.size 9 i0 _ 1 16 Try.underlying33 hi hy0 hy1 hy2 rfl (.slice A acc.length cc) acc.length (acc.map sv) rfl (hob2.alloc _) _ 1 [sv wa] rfl (Src.own (Own.lit (base := w.heap.size) wr #[sv wa] 1 hbs2 (by decide) rfl) Try.underlying33 (by intro v hv; simp at hv; subst hv; rfl) (by decide)) (by unfold maxLen; omega) (by omega) (by simp; omega) ?_; intro v1 w1 hO hgr hat))
              have hO1 : Own w1 w.heap.size 9 1 v1 (acc ++ [wa]).length ((acc ++ [wa]).map sv) := by rw [List.map_append, List.length_append]; exact hO
              have hb9 : Below w.heap.size w w1 := (hbel2.alloc hbs2 _).grown hgr (by simp; omega) (fun k hk => (hob2.lt k hk).1)
              go_roundw
              case rel =>
                first
                  | exact ⟨k + i, acc ++ [wa], hki, by rw [List.length_append, List.length_singleton]; omega, by rw [HXX2.out], hO1, HC, hb9⟩
                  | ((repeat apply Exists.intro); exact ⟨⟨k + i, acc ++ [wa], hki, by rw [List.length_append, List.length_singleton]; omega, by rw [HXX2.out], hO1, HC, hb9⟩, rfl⟩)
              case measure => show lenOf (sv X) < lenOf (sv (L.drop k1)); rw [HXM.out, HML.out]; omega
        · have HC := Lib.hid (HW.out.blank_ hkL (by rw [hc]; exact hb))
          have HB := Lib.hid hb
          clear hX hm hc hb
          go_wp2_with (go_at_call 34; refine (ref_blank_t _ rfl HB.out).mono ?_; rintro e w' ⟨rfl, rfl⟩)
          go_roundw
          case rel =>
            first
              | exact ⟨k + 1, by omega, by omega, rfl, HC, by first | rfl | trivial⟩
              | ((repeat apply Exists.intro); exact ⟨⟨k + 1, by omega, by omega, rfl, HC, by first | rfl | trivial⟩, rfl⟩)
          case measure => show lenOf (sv (L.drop (k + 1))) < lenOf (sv X); rw [HML.out, HXM.out]; omega
      · have HO := Lib.hid (HW.out.out (by rw [HN.out]; exact hkn))
        have i1 : (m : Int) ≤ 0 := by omega
        have i2 : ((m : Int) == 0) = true := by simpa using (by omega : m = 0)
        clear hX hm
        by_cases h256 : 256 < acc.length
        · have HR := Lib.hid (Rq.words_many HO.out h256)
          have i3 : (256 : Int) < (acc.length : Int) := by omega
          have i4 : decide ((acc.length : Int) ≤ 256) = false := by simpa using i3
          clear h256
          go_wp2_with fail
          go_ret2
          exact ⟨by rw [HR.out]; exact ⟨_, rfl⟩, hbel⟩
        · have HR := Lib.hid (Rq.words_some HO.out (by omega))
          have i3 : (acc.length : Int) ≤ 256 := by omega
          have i4 : decide ((acc.length : Int) ≤ 256) = true := by simpa using i3
          clear h256
          go_wp2_with fail
          go_ret2
          exact ⟨by rw [HR.out]; exact ⟨_, rfl, hob⟩, hbel⟩
end Go.Proofs.Ytjdnpgdedbegfaa
