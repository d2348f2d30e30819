/- The walks of reply's Failed, Fail, of the law ReplyFails. -/
import Derived.Test.YtnmchplabaoflaaDoorRplS
import Derived.Test.YtnmchplabaoflaaDoorFltN
namespace Go.Proofs.YtnmchplabaoflaaDoor
open Go.RowKit Go.Shelf
set_option linter.unusedVariables false

set_option maxRecDepth 100000 in
theorem failed_any (k : Int) (s : List UInt8) (n : Int) (A : Option Addr) (m c : Nat) (w : World) : Calls Tryd.prog 29 #[.agg #[.int .i64 k, sv s, .int .i64 n, .slice A m c]] w fun e w' => e = .returned (.bool (k == 2)) ∧ Below w.heap.size w w' := by
  go_enter Tryd.func29, Tryd.ntmps29
  go_wp2
  go_ret
  exact ⟨rfl, (Below.refl _ _).alloc (Nat.le_refl _) _⟩
set_option maxRecDepth 100000 in
set_option maxHeartbeats 4000000 in
theorem fail_any (c : Int) (s : List UInt8) (l : List (Nat × List UInt8)) (w : World) (hs : s.length ≤ 1000) (hch : Chn w (cd c) l) (hg : Et w) (hm : My w) :
    Calls Tryd.prog 27 #[sv s, ev (cd c) l] w fun e w' => e = .returned (.agg #[.int .i64 2, sv (tx c (pln s)), .int .i64 0, .slice none 0 0]) ∧ Below w.heap.size w w' := by
  have hb1 : Below w.heap.size w (w.alloc (.cells #[.int .i64 0, .string ⟨#[]⟩, .int .i64 0, .slice none 0 0] 54)) := (Below.refl _ _).alloc (Nat.le_refl _) _
  have HC := Lib.hid (fun w1 (hb : Below w.heap.size w w1) => code_chain c l w1 (hch.below hb) (hg.below_ hb))
  have HT := Lib.hid (fun w1 (hb : Below w.heap.size w w1) => text_any c s w1 hs (hm.below_ hb))
  have HX := Lib.hid (Blk.new w 54 #[.int .i64 0, .string ⟨#[]⟩, .int .i64 0, .slice none 0 0])
  have HLT := Lib.hid (show w.heap.size < (w.alloc (.cells #[.int .i64 0, .string ⟨#[]⟩, .int .i64 0, .slice none 0 0] 54)).heap.size by simp)
  have HB1 := Lib.hid hb1
  obtain ⟨u, v, hu⟩ := ev_iface ⟨_, _, rfl⟩ l (E0 := cd c)
  rw [hu] at HC ⊢
  obtain ⟨T, hT⟩ : ∃ T, tx c (pln s) = T := ⟨_, rfl⟩
  rw [hT] at HT ⊢
  clear hb1 hs hch hg hm hu hT
  go_enter Tryd.func27, Tryd.ntmps27
  go_wp2_with fail
  refine (HC.out _ HB1.out).mono ?_
  rintro e w1 ⟨rfl, hb1⟩
  have HB2 := Lib.hid (below_trans HB1.out hb1)
  have HX1 := Lib.hid (HX.out.below hb1 HLT.out); have HLT1 := Lib.hid (Nat.lt_of_lt_of_le HLT.out hb1.size); clear hb1
  go_wp2_with fail
  refine (HT.out _ HB2.out).mono ?_
  rintro e w2 ⟨rfl, hb2⟩
  have hb2f := HX1.out.below hb2 HLT1.out
  have HBF := Lib.hid (HB2.out.trans (hb2.mono HB2.out.size))
  clear hb2
  have k0 := hb2f.cell 0
  have k1 := hb2f.cell 1
  have k2 := hb2f.cell 2
  have k3 := hb2f.cell 3
  have z0 := hb2f.frozen 0
  have z1 := hb2f.frozen 1
  have z2 := hb2f.frozen 2
  have z3 := hb2f.frozen 3
  go_wp2_with fail
  refine bodyPost_ret (ret_cell1 rfl _ _ w.heap.size _ _ _ _ _ rfl (hb2f.put4 _ _ _ _)) rfl ?_
  exact ⟨rfl, put4_below HBF.out _ (Nat.le_refl _) _ _ _ _⟩
theorem ord_self (r : Rep) : ord r r = 0 := by unfold ord; exact ordn_self _
def inn : List UInt8 := [105, 110]
def outt : List UInt8 := [111, 117, 116]
def other5 : List UInt8 := [111, 116, 104, 101, 114]

set_option maxRecDepth 100000 in
set_option maxHeartbeats 4000000 in
theorem replyFails_walk (c : Int) (x : ByteArray) (d : Int) (w : World) (h1 : bd c) (hx : x.size ≤ maxLen) (h3 : bd d) (hm : My w) (hg : Et w) :
    Calls Tryd.prog 9 #[.int .i64 c, .string x, .int .i64 d] w fun e w' => e = .returned (.bool true) ∧ Below w.heap.size w w' := by
  obtain ⟨s, hs⟩ : ∃ s, x.data.toList.take 20 = s := ⟨_, rfl⟩
  have hs100 : s.length ≤ 1000 := by rw [← hs, List.length_take]; omega
  obtain ⟨k, hk⟩ : ∃ k, within c 1 25 = k := ⟨_, rfl⟩
  have hkb := within_bd c 1 25 (by decide)
  rw [hk] at hkb
  have HCUT := Lib.hid (fun w1 => cut_any x 20 w1 hx (by decide))
  have HWI := Lib.hid (within_any c 1 25 w h1.1 h1.2 (by decide) (by decide) (by decide))
  have HWD := Lib.hid (fun w1 => within_nat d 9 w1 h3 (by decide) (by decide))
  rw [hs] at HCUT
  rw [hk] at HWI
  obtain ⟨T, hT⟩ : ∃ T, tx k (pln s) = T := ⟨_, rfl⟩
  have hpos := tx_pos k hkb.1 hkb.2 (pln s)
  have hTl : T.length ≤ maxLen := by
    have := tx_len k (pln s); rw [pln_len] at this; rw [← hT]; unfold maxLen; omega
  have HF := Lib.hid (fun l w1 h h' h'' => fail_any k s l w1 hs100 h h' h'')
  rw [hT] at HF hpos
  have HNEW := Lib.hid (fun w1 => new_any inn k w1 (by omega))
  have HNEW2 := Lib.hid (fun w1 => new_any other5 k w1 (by omega))
  have HWR := Lib.hid (fun l w1 h1 h2 => wrap_any (code_chain k) (by omega) ⟨_, _, rfl⟩ outt l w1 h1 h2)
  have HSAME : Hid (∀ w5, Calls Tryd.prog 28 #[.agg #[.int .i64 2, sv T, .int .i64 0, .slice none 0 0], .agg #[.int .i64 2, sv T, .int .i64 0, .slice none 0 0]] w5 fun e w' => e = .returned (.bool true) ∧ Below w5.heap.size w5 w') := Lib.hid (fun w5 => (same_any (w := w5) (a := .mk 2 T 0 []) (b := .mk 2 T 0 []) (RV.flat_ (by unfold fits; omega) (by unfold fits; omega) hTl) (RV.flat_ (by unfold fits; omega) (by unfold fits; omega) hTl)).mono (fun e w' h => ⟨h.1.trans (by rw [ord_self]; rfl), h.2⟩))
  have HSZ := Lib.hid hpos
  have HG := Lib.hid hg
  have HM := Lib.hid hm
  clear hg hm hs hs100 hk hkb h1 h3 hx hT hpos hTl
  go_enter Tryd.func9, Tryd.ntmps9
  go_wp2_with fail
  refine (HWI.out).mono ?_
  rintro e w1 ⟨rfl, rfl⟩
  go_wp2_with fail
  refine (HNEW.out _).mono ?_
  rintro e w2 ⟨g0, rfl, hch0, hb0⟩
  have HC0 := Lib.hid hch0
  have HB0 := Lib.hid hb0
  clear hch0 hb0
  obtain ⟨u0, v0, hu0⟩ := ev_iface ⟨_, _, rfl⟩ [(g0, inn)] (E0 := cd k)
  have HU0 := Lib.hid hu0
  rw [hu0]
  clear hu0
  go_wp2_with fail
  refine (HWD.out _).mono ?_
  rintro e w3 ⟨n, hn, rfl, rfl⟩
  go_wp2_with fail
  go_loopw [8, 9] (fun x y wr => ∃ l m, x = ev (cd k) l ∧ y = .int .i64 (m : Nat) ∧ m ≤ n ∧ Chn wr (cd k) l ∧ Below w.heap.size w wr) (fun x y _ => (intOf y).toNat)
  case atStart => exact ⟨[(g0, inn)], n, HU0.out.symm, rfl, by omega, HC0.out, HB0.out⟩
  case round =>
    clear HNEW HC0 HB0 HU0
    obtain ⟨l, m, rfl, rfl, hmn, hch, hb⟩ := hrel
    have HCH := Lib.hid hch
    have HB := Lib.hid hb
    clear hch hb
    obtain ⟨u1, v1, hu1⟩ := ev_iface ⟨_, _, rfl⟩ l (E0 := cd k)
    have HU1 := Lib.hid hu1
    rw [hu1]
    clear hu1
    by_cases hm0 : 0 < m
    · have i1 : (0 : Int) < (m : Int) := by omega
      have HW1 := Lib.hid (HWR.out l wr HCH.out (HG.out.below_ HB.out))
      rw [HU1.out] at HW1
      go_wp2_with (first
        | (go_at_call 16; refine HW1.out.mono ?_; rintro e w2 ⟨g, rfl, hch2, hb2⟩; have HC2 := Lib.hid hch2; have HB2 := Lib.hid hb2; clear hch2 hb2))
      go_roundw
      case rel => exact ⟨(g, outt) :: l, m - 1, rfl, by go_num, by omega, HC2.out, below_trans HB.out HB2.out⟩
      case measure => simp [intOf]; omega
    · have hz : m = 0 := by omega
      subst hz
      go_wp2_with fail
      refine (HCUT.out _).mono ?_
      rintro e w4 ⟨rfl, rfl⟩
      have HF1 := Lib.hid (HF.out l wr HCH.out (HG.out.below_ HB.out) (HM.out.below_ HB.out))
      rw [HU1.out] at HF1
      go_wp2_with fail
      refine HF1.out.mono ?_
      rintro e w5 ⟨rfl, hb5⟩
      have HB5 := Lib.hid (below_trans HB.out hb5); clear hb5
      go_wp2_with fail
      refine (HNEW2.out _).mono ?_
      rintro e w6 ⟨g2, rfl, hch6, hb6⟩
      have HB6 := Lib.hid (below_trans HB5.out hb6); clear hb6
      have HC6 := Lib.hid hch6; clear hch6
      obtain ⟨u2, v2, hu2⟩ := ev_iface ⟨_, _, rfl⟩ [(g2, other5)] (E0 := cd k)
      have HF2 := Lib.hid (HF.out [(g2, other5)] w6 HC6.out (HG.out.below_ HB6.out) (HM.out.below_ HB6.out))
      rw [hu2] at HF2 ⊢
      clear hu2
      go_wp2_with fail
      refine HF2.out.mono ?_
      rintro e w7 ⟨rfl, hb7⟩
      have HB7 := Lib.hid (below_trans HB6.out hb7); clear hb7
      go_wp2_with fail
      have hB := (Blk.new w7 54 #[.int .i64 2, sv T, .int .i64 0, .slice none 0 0])
      have hB2 := Lib.hid (hB.alloc (.cells #[.int .i64 2, sv T, .int .i64 0, .slice none 0 0] 54))
      have HB8 := Lib.hid ((HB7.out.alloc HB7.out.size (.cells #[.int .i64 2, sv T, .int .i64 0, .slice none 0 0] 54)).alloc (by have := HB7.out.size; simp; omega) (.cells #[.int .i64 2, sv T, .int .i64 0, .slice none 0 0] 54))
      clear hB
      change Calls Tryd.prog 28 #[.agg #[.int .i64 2, sv T, .int .i64 0, .slice none 0 0], .agg #[.int .i64 2, sv T, .int .i64 0, .slice none 0 0]] ((w7.alloc (.cells #[.int .i64 2, sv T, .int .i64 0, .slice none 0 0] 54)).alloc (.cells #[.int .i64 2, sv T, .int .i64 0, .slice none 0 0] 54)) _
      generalize (w7.alloc (.cells #[.int .i64 2, sv T, .int .i64 0, .slice none 0 0] 54)).alloc (.cells #[.int .i64 2, sv T, .int .i64 0, .slice none 0 0] 54) = W8 at hB2 HB8 ⊢
      generalize w7.heap.size = G at hB2 ⊢
      refine (HSAME.out _).mono ?_
      rintro e w9 ⟨rfl, hb9⟩
      have HX9 := Lib.hid (hB2.out.below hb9 hB2.out.lt)
      have HB9 := Lib.hid (below_trans HB8.out hb9)
      clear hb9 hB2 HB8
      have k0 := HX9.out.cell 0
      have k1 := HX9.out.cell 1
      have k2 := HX9.out.cell 2
      have k3 := HX9.out.cell 3
      go_wp2_with fail
      have HFD := Lib.hid (failed_any 2 T 0 none 0 0 w9)
      refine HFD.out.mono ?_
      rintro e w10 ⟨rfl, hb10⟩
      have HX10 := Lib.hid (HX9.out.below hb10 HX9.out.lt)
      have HB10 := Lib.hid (below_trans HB9.out hb10)
      clear hb10 k0 k1 k2 k3
      have k1 := HX10.out.cell 1
      have hsz := HSZ.out
      go_wp2_with fail
      refine (known17_any _).mono ?_
      rintro e w11 ⟨rfl, hb11⟩
      have HB11 := Lib.hid (below_trans HB10.out hb11)
      clear hb11
      go_wp2_with fail
      go_ret
      exact ⟨rfl, HB11.out⟩
end Go.Proofs.YtnmchplabaoflaaDoor
