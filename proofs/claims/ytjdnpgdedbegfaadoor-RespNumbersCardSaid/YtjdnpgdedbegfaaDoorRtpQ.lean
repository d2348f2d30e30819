/- The walk of the reference's Decode (tallboyref18), where no number is read. -/
import Derived.Test.YtjdnpgdedbegfaaDoorRtpP
import Derived.Test.YtjdnpgdedbegfaaDoorRspS
namespace Go.Proofs.YtjdnpgdedbegfaaDoor
open Go.RowKit Go.Shelf
set_option linter.unusedVariables false

/-- What the reference's Decode gives. -/
def RD3 (w w' : World) (e : Ending) (L : Nat) : Option (Rep × List UInt8) → Prop
  | none => e = .returned (.tuple #[.agg #[.int .i64 0, .string ⟨#[]⟩, .int .i64 0, .slice none 0 0], .int .i64 0, .bool false])
  | some (r, t) => ∃ E f, e = .returned (.tuple #[.agg #[.int .i64 r.k, sv r.s, .int .i64 r.n, .slice E r.l.length f], .int .i64 ((L - t.length : Nat) : Int), .bool true]) ∧ RV w' (New w w') r [.int .i64 r.k, sv r.s, .int .i64 r.n, .slice E r.l.length f]
def RDecAt (d : Nat) : Prop := ∀ (l : List UInt8) (w : World), l.length ≤ 1048576 →
  Calls Tryd.prog 30 #[.string (bs l), .int .i64 (d : Nat)] w fun e w' => RD3 w w' e l.length (Rsp.rd d l.length l) ∧ Below w.heap.size w w'
theorem zz_blk (w : World) (c : Array Value) : Blk ((w.alloc (.cells c 27)).alloc (.cells #[.int .i64 0, .string ⟨#[]⟩, .int .i64 0, .slice none 0 0] 27)) w.heap.size 27 c := (Blk.new w _ _).alloc _
theorem zz_below (w : World) (c : Array Value) : Below w.heap.size w ((w.alloc (.cells c 27)).alloc (.cells #[.int .i64 0, .string ⟨#[]⟩, .int .i64 0, .slice none 0 0] 27)) := ((Below.refl _ _).alloc (Nat.le_refl _) _).alloc (by simp) _

set_option maxRecDepth 100000 in
set_option maxHeartbeats 4000000 in
theorem rdec_nil (d : Nat) (w : World) : Calls Tryd.prog 30 #[.string (bs []), .int .i64 (d : Nat)] w fun e w' => RD3 w w' e 0 none ∧ Below w.heap.size w w' := by
  have HZ := Lib.hid (zz_blk w #[.int .i64 0, .string ⟨#[]⟩, .int .i64 0, .slice none 0 0])
  have HB := Lib.hid (zz_below w #[.int .i64 0, .string ⟨#[]⟩, .int .i64 0, .slice none 0 0])
  rw [show bs [] = ⟨#[]⟩ from rfl]
  unfold RD3
  go_enter Tryd.func30, Tryd.ntmps30
  go_wp2_with fail
  refine bodyPost_ret (ret_cell3 rfl _ _ w.heap.size _ _ _ _ _ rfl HZ.out) rfl ?_
  exact ⟨rfl, HB.out⟩
set_option maxRecDepth 100000 in
set_option maxHeartbeats 4000000 in
theorem rdec_zero (l : List UInt8) (w : World) (h0 : 0 < l.length) (hl : l.length ≤ 1048576) : Calls Tryd.prog 30 #[.string (bs l), .int .i64 0] w fun e w' => RD3 w w' e l.length none ∧ Below w.heap.size w w' := by
  have HZ := Lib.hid (zz_blk w #[.int .i64 0, .string ⟨#[]⟩, .int .i64 0, .slice none 0 0])
  have HB := Lib.hid (zz_below w #[.int .i64 0, .string ⟨#[]⟩, .int .i64 0, .slice none 0 0])
  have hsz : (bs l).size = l.length := bs_size l
  obtain ⟨n, hn⟩ : ∃ n, l.length = n := ⟨_, rfl⟩
  rw [hn] at hsz h0 hl
  have i1 : (0 : Int) < (n : Int) := by omega
  have i2 : ((n : Int) == 0) = false := by simp; omega
  clear hn
  unfold RD3
  go_enter Tryd.func30, Tryd.ntmps30
  go_wp2_with fail
  refine bodyPost_ret (ret_cell3 rfl _ _ w.heap.size _ _ _ _ _ rfl HZ.out) rfl ?_
  exact ⟨rfl, HB.out⟩

set_option maxRecDepth 100000 in
set_option maxHeartbeats 8000000 in
theorem rdec_sign43 (d : Nat) (l b : List UInt8) (w : World) (hc : l = 43 :: b) (hl : l.length ≤ 1048576) : Calls Tryd.prog 30 #[.string (bs l), .int .i64 ((d + 1 : Nat) : Int)] w fun e w' => RD3 w w' e l.length (Rsp.rd (d + 1) l.length l) ∧ Below w.heap.size w w' := by
  obtain ⟨n, hn⟩ : ∃ n, l.length = n := ⟨_, rfl⟩
  have HN := Lib.hid hn
  have hsz : (bs l).size = n := by rw [bs_size]; exact hn
  have h0 : 0 < n := by rw [← hn, hc]; simp
  have hz : 0 < (bs l).size := by rw [hsz]; exact h0
  have hg0 : (bs l)[0]'hz = 43 := by rw [bs_get18 l 0 hz (by rw [hn]; exact h0)]; simp [hc]
  rw [hn] at hl ⊢
  have HZ := Lib.hid (zz_blk w #[.int .i64 0, .string ⟨#[]⟩, .int .i64 0, .slice none 0 0])
  have HB := Lib.hid (zz_below w #[.int .i64 0, .string ⟨#[]⟩, .int .i64 0, .slice none 0 0])
  obtain ⟨X, hX⟩ : ∃ X, Rsp.rd (d + 1) n l = X := ⟨_, rfl⟩
  rw [hX]
  obtain ⟨D, hD⟩ : ∃ D, d + 1 = D := ⟨_, rfl⟩
  rw [hD]
  have i1 : (0 : Int) < (n : Int) := by omega
  have i2 : ((n : Int) == 0) = false := by simp; omega
  have i3 : ¬ (D : Int) < 1 := by omega
  have i4 : (1 : Int) ≤ (n : Int) := by omega
  have HX := Lib.hid (show X = (Rsp.lnl (l.drop 1)).map (fun p => (.mk 1 p.1 0 [], p.2)) by
    rw [← hX, hc, Rsp.rd_sign (by decide)]; rfl)
  have HL1 := Lib.hid (LAt.start l 1)
  clear hc hX hD hn
  go_enter Tryd.func30, Tryd.ntmps30
  go_wp2_with fail
  go_loop [8] (fun x => ∃ i : Nat, 1 ≤ i ∧ i ≤ n ∧ x = .int .i64 (i : Nat) ∧ Hid (LAt l 1 i)) (fun x => n - (intOf x).toNat)
  case atStart => exact ⟨1, Nat.le_refl _, h0, rfl, HL1⟩
  case round =>
    clear HL1
    obtain ⟨i, hi1, hin, rfl, HA⟩ := hrel
    by_cases hlt : i < n
    · have hiL : i < l.length := by rw [HN.out]; exact hlt
      obtain ⟨c, hc⟩ : ∃ c, l[i] = c := ⟨_, rfl⟩
      have hx0 : i < (bs l).size := by rw [hsz]; exact hlt
      have hg1 : (bs l)[i]'hx0 = c := by rw [bs_get18 l i hx0 hiL, hc]
      have HV := Lib.hid (show l[i]? = some c by rw [List.getElem?_eq_getElem hiL, hc])
      have j1 : (i : Int) < (n : Int) := by omega
      clear hc hiL
      by_cases h10 : c = 10
      · subst h10
        have HR := Lib.hid (show X = none by rw [HX.out, HA.out.bad HV.out]; rfl)
        go_wp2_with fail
        refine bodyPost_ret (ret_cell3 rfl _ _ w.heap.size _ _ _ _ _ rfl HZ.out) rfl ?_
        rw [HR.out]
        exact ⟨rfl, HB.out⟩
      · have q0 := u8_f (c := c) 10 rfl h10
        by_cases h13 : c = 13
        · subst h13
          by_cases hlt2 : i + 1 < n
          · have hiL2 : i + 1 < l.length := by rw [HN.out]; exact hlt2
            obtain ⟨d2, hd⟩ : ∃ d, l[i + 1] = d := ⟨_, rfl⟩
            have hx1 : i + 1 < (bs l).size := by rw [hsz]; exact hlt2
            have hg2 : (bs l)[i + 1]'hx1 = d2 := by rw [bs_get18 l (i + 1) hx1 hiL2, hd]
            have HV2 := Lib.hid (show l[i + 1]? = some d2 by rw [List.getElem?_eq_getElem hiL2, hd])
            have j2 : ¬ (n : Int) ≤ (i : Int) + 1 := by omega
            have j3 : (i : Int) + 1 < (n : Int) := by omega
            clear hd hiL2
            by_cases h2 : d2 = 10
            · subst h2
              have HR := Lib.hid (show X = some (.mk 1 ((l.drop 1).take (i - 1)) 0 [], l.drop (i + 2)) by rw [HX.out, HA.out.hit HV.out HV2.out]; rfl)
              have hex := ex_part l i
              have hpl : ((l.drop 1).take (i - 1)).length ≤ maxLen := by rw [List.length_take, List.length_drop, HN.out]; unfold maxLen; omega
              obtain ⟨S1, hS1⟩ : ∃ S, (l.drop 1).take (i - 1) = S := ⟨_, rfl⟩
              rw [hS1] at hex HR hpl
              have HPL := Lib.hid hpl
              have HT := Lib.hid (show n - (l.drop (i + 2)).length = i + 2 by rw [List.length_drop, HN.out]; omega)
              have j4 : (1 : Int) ≤ (i : Int) := by omega
              have HZ2 := Lib.hid (zz_blk w #[.int .i64 1, .string (bs S1), .int .i64 0, .slice none 0 0])
              have HB2 := Lib.hid (zz_below w #[.int .i64 1, .string (bs S1), .int .i64 0, .slice none 0 0])
              clear hS1 hpl
              go_wp2_with fail
              refine bodyPost_ret (ret_cell3 rfl _ _ w.heap.size _ _ _ _ _ rfl HZ2.out) rfl ?_
              rw [HR.out]
              refine ⟨⟨none, 0, ?_, RV.flat_ (by unfold fits; omega) (by unfold fits; omega) HPL.out⟩, HB2.out⟩
              rw [HT.out]; rfl
            · have q1 := u8_nt (c := d2) 10 rfl h2
              have HR := Lib.hid (show X = none by rw [HX.out, HA.out.half HV.out (by rw [HV2.out]; intro e; exact h2 (Option.some.inj e))]; rfl)
              go_wp2_with fail
              refine bodyPost_ret (ret_cell3 rfl _ _ w.heap.size _ _ _ _ _ rfl HZ.out) rfl ?_
              rw [HR.out]
              exact ⟨rfl, HB.out⟩
          · have j2 : (n : Int) ≤ (i : Int) + 1 := by omega
            have HR := Lib.hid (show X = none by rw [HX.out, HA.out.half HV.out (by rw [List.getElem?_eq_none (by rw [HN.out]; omega)]; intro e; cases e)]; rfl)
            go_wp2_with fail
            refine bodyPost_ret (ret_cell3 rfl _ _ w.heap.size _ _ _ _ _ rfl HZ.out) rfl ?_
            rw [HR.out]
            exact ⟨rfl, HB.out⟩
        · have q1 := u8_f (c := c) 13 rfl h13
          have HY := Lib.hid (HA.out.next hi1 HV.out h10 h13)
          go_wp2_with fail
          go_round
          case rel => exact ⟨i + 1, by omega, by omega, by go_num, HY⟩
          case measure => simp [intOf]; omega
    · have HR := Lib.hid (show X = none by rw [HX.out, HA.out.cut (by rw [HN.out]; omega)]; rfl)
      have j1 : ¬ (i : Int) < (n : Int) := by omega
      go_wp2_with fail
      refine bodyPost_ret (ret_cell3 rfl _ _ w.heap.size _ _ _ _ _ rfl HZ.out) rfl ?_
      rw [HR.out]
      exact ⟨rfl, HB.out⟩

set_option maxRecDepth 100000 in
set_option maxHeartbeats 8000000 in
theorem rdec_sign45 (d : Nat) (l b : List UInt8) (w : World) (hc : l = 45 :: b) (hl : l.length ≤ 1048576) : Calls Tryd.prog 30 #[.string (bs l), .int .i64 ((d + 1 : Nat) : Int)] w fun e w' => RD3 w w' e l.length (Rsp.rd (d + 1) l.length l) ∧ Below w.heap.size w w' := by
  obtain ⟨n, hn⟩ : ∃ n, l.length = n := ⟨_, rfl⟩
  have HN := Lib.hid hn
  have hsz : (bs l).size = n := by rw [bs_size]; exact hn
  have h0 : 0 < n := by rw [← hn, hc]; simp
  have hz : 0 < (bs l).size := by rw [hsz]; exact h0
  have hg0 : (bs l)[0]'hz = 45 := by rw [bs_get18 l 0 hz (by rw [hn]; exact h0)]; simp [hc]
  rw [hn] at hl ⊢
  have HZ := Lib.hid (zz_blk w #[.int .i64 0, .string ⟨#[]⟩, .int .i64 0, .slice none 0 0])
  have HB := Lib.hid (zz_below w #[.int .i64 0, .string ⟨#[]⟩, .int .i64 0, .slice none 0 0])
  obtain ⟨X, hX⟩ : ∃ X, Rsp.rd (d + 1) n l = X := ⟨_, rfl⟩
  rw [hX]
  obtain ⟨D, hD⟩ : ∃ D, d + 1 = D := ⟨_, rfl⟩
  rw [hD]
  have i1 : (0 : Int) < (n : Int) := by omega
  have i2 : ((n : Int) == 0) = false := by simp; omega
  have i3 : ¬ (D : Int) < 1 := by omega
  have i4 : (1 : Int) ≤ (n : Int) := by omega
  have HX := Lib.hid (show X = (Rsp.lnl (l.drop 1)).map (fun p => (.mk 2 p.1 0 [], p.2)) by
    rw [← hX, hc, Rsp.rd_sign (by decide)]; rfl)
  have HL1 := Lib.hid (LAt.start l 1)
  clear hc hX hD hn
  go_enter Tryd.func30, Tryd.ntmps30
  go_wp2_with fail
  go_loop [8] (fun x => ∃ i : Nat, 1 ≤ i ∧ i ≤ n ∧ x = .int .i64 (i : Nat) ∧ Hid (LAt l 1 i)) (fun x => n - (intOf x).toNat)
  case atStart => exact ⟨1, Nat.le_refl _, h0, rfl, HL1⟩
  case round =>
    clear HL1
    obtain ⟨i, hi1, hin, rfl, HA⟩ := hrel
    by_cases hlt : i < n
    · have hiL : i < l.length := by rw [HN.out]; exact hlt
      obtain ⟨c, hc⟩ : ∃ c, l[i] = c := ⟨_, rfl⟩
      have hx0 : i < (bs l).size := by rw [hsz]; exact hlt
      have hg1 : (bs l)[i]'hx0 = c := by rw [bs_get18 l i hx0 hiL, hc]
      have HV := Lib.hid (show l[i]? = some c by rw [List.getElem?_eq_getElem hiL, hc])
      have j1 : (i : Int) < (n : Int) := by omega
      clear hc hiL
      by_cases h10 : c = 10
      · subst h10
        have HR := Lib.hid (show X = none by rw [HX.out, HA.out.bad HV.out]; rfl)
        go_wp2_with fail
        refine bodyPost_ret (ret_cell3 rfl _ _ w.heap.size _ _ _ _ _ rfl HZ.out) rfl ?_
        rw [HR.out]
        exact ⟨rfl, HB.out⟩
      · have q0 := u8_f (c := c) 10 rfl h10
        by_cases h13 : c = 13
        · subst h13
          by_cases hlt2 : i + 1 < n
          · have hiL2 : i + 1 < l.length := by rw [HN.out]; exact hlt2
            obtain ⟨d2, hd⟩ : ∃ d, l[i + 1] = d := ⟨_, rfl⟩
            have hx1 : i + 1 < (bs l).size := by rw [hsz]; exact hlt2
            have hg2 : (bs l)[i + 1]'hx1 = d2 := by rw [bs_get18 l (i + 1) hx1 hiL2, hd]
            have HV2 := Lib.hid (show l[i + 1]? = some d2 by rw [List.getElem?_eq_getElem hiL2, hd])
            have j2 : ¬ (n : Int) ≤ (i : Int) + 1 := by omega
            have j3 : (i : Int) + 1 < (n : Int) := by omega
            clear hd hiL2
            by_cases h2 : d2 = 10
            · subst h2
              have HR := Lib.hid (show X = some (.mk 2 ((l.drop 1).take (i - 1)) 0 [], l.drop (i + 2)) by rw [HX.out, HA.out.hit HV.out HV2.out]; rfl)
              have hex := ex_part l i
              have hpl : ((l.drop 1).take (i - 1)).length ≤ maxLen := by rw [List.length_take, List.length_drop, HN.out]; unfold maxLen; omega
              obtain ⟨S1, hS1⟩ : ∃ S, (l.drop 1).take (i - 1) = S := ⟨_, rfl⟩
              rw [hS1] at hex HR hpl
              have HPL := Lib.hid hpl
              have HT := Lib.hid (show n - (l.drop (i + 2)).length = i + 2 by rw [List.length_drop, HN.out]; omega)
              have j4 : (1 : Int) ≤ (i : Int) := by omega
              have HZ2 := Lib.hid (zz_blk w #[.int .i64 2, .string (bs S1), .int .i64 0, .slice none 0 0])
              have HB2 := Lib.hid (zz_below w #[.int .i64 2, .string (bs S1), .int .i64 0, .slice none 0 0])
              clear hS1 hpl
              go_wp2_with fail
              refine bodyPost_ret (ret_cell3 rfl _ _ w.heap.size _ _ _ _ _ rfl HZ2.out) rfl ?_
              rw [HR.out]
              refine ⟨⟨none, 0, ?_, RV.flat_ (by unfold fits; omega) (by unfold fits; omega) HPL.out⟩, HB2.out⟩
              rw [HT.out]; rfl
            · have q1 := u8_nt (c := d2) 10 rfl h2
              have HR := Lib.hid (show X = none by rw [HX.out, HA.out.half HV.out (by rw [HV2.out]; intro e; exact h2 (Option.some.inj e))]; rfl)
              go_wp2_with fail
              refine bodyPost_ret (ret_cell3 rfl _ _ w.heap.size _ _ _ _ _ rfl HZ.out) rfl ?_
              rw [HR.out]
              exact ⟨rfl, HB.out⟩
          · have j2 : (n : Int) ≤ (i : Int) + 1 := by omega
            have HR := Lib.hid (show X = none by rw [HX.out, HA.out.half HV.out (by rw [List.getElem?_eq_none (by rw [HN.out]; omega)]; intro e; cases e)]; rfl)
            go_wp2_with fail
            refine bodyPost_ret (ret_cell3 rfl _ _ w.heap.size _ _ _ _ _ rfl HZ.out) rfl ?_
            rw [HR.out]
            exact ⟨rfl, HB.out⟩
        · have q1 := u8_f (c := c) 13 rfl h13
          have HY := Lib.hid (HA.out.next hi1 HV.out h10 h13)
          go_wp2_with fail
          go_round
          case rel => exact ⟨i + 1, by omega, by omega, by go_num, HY⟩
          case measure => simp [intOf]; omega
    · have HR := Lib.hid (show X = none by rw [HX.out, HA.out.cut (by rw [HN.out]; omega)]; rfl)
      have j1 : ¬ (i : Int) < (n : Int) := by omega
      go_wp2_with fail
      refine bodyPost_ret (ret_cell3 rfl _ _ w.heap.size _ _ _ _ _ rfl HZ.out) rfl ?_
      rw [HR.out]
      exact ⟨rfl, HB.out⟩

set_option maxRecDepth 100000 in
set_option maxHeartbeats 8000000 in
theorem rdec_other (d : Nat) (c : UInt8) (l b : List UInt8) (w : World) (hc : l = c :: b) (hl : l.length ≤ 1048576) (h1 : c ≠ 43) (h2 : c ≠ 45) (h3 : c ≠ 95) (h4 : c ≠ 58) (h5 : c ≠ 36) (h6 : c ≠ 42) (h7 : c ≠ 37) (h8 : c ≠ 126) : Calls Tryd.prog 30 #[.string (bs l), .int .i64 ((d + 1 : Nat) : Int)] w fun e w' => RD3 w w' e l.length (Rsp.rd (d + 1) l.length l) ∧ Below w.heap.size w w' := by
  obtain ⟨n, hn⟩ : ∃ n, l.length = n := ⟨_, rfl⟩
  have HN := Lib.hid hn
  have hsz : (bs l).size = n := by rw [bs_size]; exact hn
  have h0 : 0 < n := by rw [← hn, hc]; simp
  have hz : 0 < (bs l).size := by rw [hsz]; exact h0
  have hg0 : (bs l)[0]'hz = c := by rw [bs_get18 l 0 hz (by rw [hn]; exact h0)]; simp [hc]
  rw [hn] at hl ⊢
  have HZ := Lib.hid (zz_blk w #[.int .i64 0, .string ⟨#[]⟩, .int .i64 0, .slice none 0 0])
  have HB := Lib.hid (zz_below w #[.int .i64 0, .string ⟨#[]⟩, .int .i64 0, .slice none 0 0])
  obtain ⟨X, hX⟩ : ∃ X, Rsp.rd (d + 1) n l = X := ⟨_, rfl⟩
  rw [hX]
  obtain ⟨D, hD⟩ : ∃ D, d + 1 = D := ⟨_, rfl⟩
  rw [hD]
  have i1 : (0 : Int) < (n : Int) := by omega
  have i2 : ((n : Int) == 0) = false := by simp; omega
  have i3 : ¬ (D : Int) < 1 := by omega
  have i4 : (1 : Int) ≤ (n : Int) := by omega
  have HR := Lib.hid (show X = none by rw [← hX, hc, Rsp.rd_other h1 h2 h3 h4 h5 h6 h7 h8])
  have q1 := u8_f (c := c) 43 rfl h1
  have q2 := u8_f (c := c) 45 rfl h2
  have q3 := u8_f (c := c) 95 rfl h3
  have q4 := u8_f (c := c) 58 rfl h4
  have q5 := u8_f (c := c) 36 rfl h5
  have q6 := u8_f (c := c) 42 rfl h6
  have q7 := u8_f (c := c) 37 rfl h7
  have q8 := u8_f (c := c) 126 rfl h8
  clear hc hX hD hn
  go_enter Tryd.func30, Tryd.ntmps30
  go_wp2_with fail
  refine bodyPost_ret (ret_cell3 rfl _ _ w.heap.size _ _ _ _ _ rfl HZ.out) rfl ?_
  rw [HR.out]
  exact ⟨rfl, HB.out⟩

set_option maxRecDepth 100000 in
set_option maxHeartbeats 8000000 in
theorem rdec_null (d : Nat) (l b : List UInt8) (w : World) (hc : l = 95 :: b) (hl : l.length ≤ 1048576) : Calls Tryd.prog 30 #[.string (bs l), .int .i64 ((d + 1 : Nat) : Int)] w fun e w' => RD3 w w' e l.length (Rsp.rd (d + 1) l.length l) ∧ Below w.heap.size w w' := by
  obtain ⟨n, hn⟩ : ∃ n, l.length = n := ⟨_, rfl⟩
  have HN := Lib.hid hn
  have hsz : (bs l).size = n := by rw [bs_size]; exact hn
  have h0 : 0 < n := by rw [← hn, hc]; simp
  have hz : 0 < (bs l).size := by rw [hsz]; exact h0
  have hg0 : (bs l)[0]'hz = 95 := by rw [bs_get18 l 0 hz (by rw [hn]; exact h0)]; simp [hc]
  rw [hn] at hl ⊢
  have HZ := Lib.hid (zz_blk w #[.int .i64 0, .string ⟨#[]⟩, .int .i64 0, .slice none 0 0])
  have HB := Lib.hid (zz_below w #[.int .i64 0, .string ⟨#[]⟩, .int .i64 0, .slice none 0 0])
  obtain ⟨X, hX⟩ : ∃ X, Rsp.rd (d + 1) n l = X := ⟨_, rfl⟩
  rw [hX]
  obtain ⟨D, hD⟩ : ∃ D, d + 1 = D := ⟨_, rfl⟩
  rw [hD]
  have i1 : (0 : Int) < (n : Int) := by omega
  have i2 : ((n : Int) == 0) = false := by simp; omega
  have i3 : ¬ (D : Int) < 1 := by omega
  have i4 : (1 : Int) ≤ (n : Int) := by omega
  have HX := Lib.hid (show X = if b.take 2 = [13, 10] then some (.mk 5 [] 0 [], b.drop 2) else none by rw [← hX, hc, Rsp.rd_null])
  have HBL := Lib.hid (show b.length + 1 = n by rw [← hn, hc]; rfl)
  have HT3 := Lib.hid (show l.take 3 = 95 :: b.take 2 by rw [hc]; rfl)
  have hex : (bs l).extract 0 3 = bs (l.take 3) := by rw [bs_extract, bs_data]; rfl
  rw [HT3.out] at hex
  clear hc hX hD hn
  by_cases h3 : n < 3
  · have HR := Lib.hid (show X = none by rw [HX.out, if_neg (by intro e; have := congrArg List.length e; rw [List.length_take] at this; have := HBL.out; simp at *; omega)])
    have j1 : (n : Int) < 3 := by omega
    go_enter Tryd.func30, Tryd.ntmps30
    go_wp2_with fail
    refine bodyPost_ret (ret_cell3 rfl _ _ w.heap.size _ _ _ _ _ rfl HZ.out) rfl ?_
    rw [HR.out]
    exact ⟨rfl, HB.out⟩
  · have j1 : ¬ (n : Int) < 3 := by omega
    have j2 : (3 : Int) ≤ (n : Int) := by omega
    obtain ⟨T, hT⟩ : ∃ T, b.take 2 = T := ⟨_, rfl⟩
    rw [hT] at hex HX
    clear hT HT3
    by_cases ht : T = [13, 10]
    · subst ht
      have HR := Lib.hid (show X = some (.mk 5 [] 0 [], b.drop 2) by rw [HX.out, if_pos rfl])
      have HT := Lib.hid (show n - (b.drop 2).length = 3 by rw [List.length_drop]; have := HBL.out; omega)
      have HZ2 := Lib.hid (zz_blk w #[.int .i64 5, .string ⟨#[]⟩, .int .i64 0, .slice none 0 0])
      have HB2 := Lib.hid (zz_below w #[.int .i64 5, .string ⟨#[]⟩, .int .i64 0, .slice none 0 0])
      rw [show bs [95, 13, 10] = ⟨#[95, 13, 10]⟩ from rfl] at hex
      go_enter Tryd.func30, Tryd.ntmps30
      go_wp2_with fail
      refine bodyPost_ret (ret_cell3 rfl _ _ w.heap.size _ _ _ _ _ rfl HZ2.out) rfl ?_
      rw [HR.out]
      refine ⟨⟨none, 0, ?_, RV.flat_ (s := []) (by unfold fits; omega) (by unfold fits; omega) (Nat.zero_le _)⟩, HB2.out⟩
      rw [HT.out]; rfl
    · have HR := Lib.hid (show X = none by rw [HX.out, if_neg ht])
      have q1 : ((95 :: T) != [95, 13, 10]) = true := by simp; exact ht
      have q2 : ((95 :: T) == [95, 13, 10]) = false := by simp; exact ht
      have q3 : (T == [13, 10]) = false := by simp; exact ht
      have q4 : (T != [13, 10]) = true := by simp; exact ht
      go_enter Tryd.func30, Tryd.ntmps30
      go_wp2_with fail
      refine bodyPost_ret (ret_cell3 rfl _ _ w.heap.size _ _ _ _ _ rfl HZ.out) rfl ?_
      rw [HR.out]
      exact ⟨rfl, HB.out⟩
end Go.Proofs.YtjdnpgdedbegfaaDoor
