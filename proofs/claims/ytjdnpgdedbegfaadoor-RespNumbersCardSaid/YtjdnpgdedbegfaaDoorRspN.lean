/- The walks of rest's reply where a text or parts follow; reply, Decode. -/
import Derived.Test.YtjdnpgdedbegfaaDoorRspM
namespace Go.Proofs.YtjdnpgdedbegfaaDoor
open Go.RowKit Go.Shelf
set_option linter.unusedVariables false

theorem lnl_at {l s t : List UInt8} {p : Nat} (h : Rsp.lnl (l.drop p) = some (s, t)) : l.drop (l.length - t.length) = t := by
  obtain ⟨q, h1, h2⟩ := Rsp.lnl_suf h
  refine (Rsp.sfx_drop ?_).symm
  have h3 : t <:+ l.drop p := by rw [h1]; exact List.suffix_append _ _
  exact h3.trans (List.drop_suffix p l)
theorem Rsp.bulk_len {n : Int} {t u : List UInt8} {r : Rep} (h : Rsp.bulk n t = some (r, u)) : r.s.length ≤ t.length := by
  unfold Rsp.bulk at h
  split at h
  · cases h
  · split at h
    · injection h with h; injection h with h1 h2
      rw [← h1]; exact List.length_take_le' _ _
    · cases h
theorem put4_rv {w w3 w2 : World} {r : Rep} {cs : List Value} (h : RV w3 (New w2 w3) r cs) (hw : w.heap.size < w2.heap.size) (a b c d : Value) : RV (put4 w3 w.heap.size a b c d) (New w (put4 w3 w.heap.size a b c d)) r cs :=
  RV.mono (fun k hk => ⟨by have := hk.1; omega, by rw [put4_size]; exact hk.2⟩) (RV.keep (fun p hp => put4_cell _ _ _ _ _ _ p (by have := hp.1; omega)) h)

set_option maxRecDepth 100000 in
set_option maxHeartbeats 8000000 in
theorem reply_bulk (d : Nat) (hd : d ≤ 32) {g n c : Nat} {A : Option Addr} {l : List UInt8} {p : Nat} (w : World) (h : Rst w g n c A l p) (hn : n ≤ 1048576) {c0 : UInt8} {body t : List UInt8} (hl : Rsp.lnl (l.drop p) = some (c0 :: body, t)) (q43 : ((c0.toNat : Int) == 43) = false) (q45 : ((c0.toNat : Int) == 45) = false) (q95 : ((c0.toNat : Int) == 95) = false) (q58 : ((c0.toNat : Int) == 58) = false) (q36 : ((c0.toNat : Int) == 36) = true) (x : Int) (hp : Num.prs body = some x) (hx : (x == -1) = false) :
    Calls Tryd.prog 23 #[.pointer (some ⟨g, 0, none⟩), .int .i64 (33 - (d : Int))] w fun e w' => RRet w w' e g n c A l (Rsp.bulk x t) ∧ w.grownBy w' (some g) := by
  have hg := h.lt
  have h1 := h.below ((Below.refl w.heap.size w).alloc (Nat.le_refl _) (.cells #[.int .i64 0, .string ⟨#[]⟩, .int .i64 0, .slice none 0 0] 27)) hg
  have hB := Blk.new w 27 #[.int .i64 0, .string ⟨#[]⟩, .int .i64 0, .slice none 0 0]
  have hL := rline_any _ h1 hn
  have hbl := lnl_len hl
  have hnl := h.2.2.1
  have hbm : (bs body).size ≤ maxLen := by rw [bs_size]; simp at hbl; unfold maxLen; omega
  have Hbm := Lib.hid (show body.length ≤ maxLen by rw [bs_size] at hbm; exact hbm)
  have hb6 : body.length + 1 ≤ 1048576 := by simp at hbl; omega
  obtain ⟨D, hD⟩ : ∃ D : Int, 33 - (d : Int) = D := ⟨_, rfl⟩
  have hD1 : D ≤ 33 := by omega
  have HD := Lib.hid hD
  rw [hD]
  have HG := Lib.hid (fun w1 (hg1 : (w.alloc (.cells #[.int .i64 0, .string ⟨#[]⟩, .int .i64 0, .slice none 0 0] 27)).grownBy w1 (some g)) => (show w.grownBy w1 (some g) from grown_trans (grown_alloc (grown_of (Below.refl _ _) _) _) hg1))
  rw [hl] at hL
  have htb := tail_bs c0 body
  have HTB := Lib.hid htb
  have HT := Lib.hid (show l.drop (n - t.length) = t by rw [hnl]; exact lnl_at hl)
  clear hD hnl hbl hl htb
  have r43 : ((((bs (c0 :: body))[0]'(by simp)).toNat : Int) == 43) = false := q43
  have r45 : ((((bs (c0 :: body))[0]'(by simp)).toNat : Int) == 45) = false := q45
  have r95 : ((((bs (c0 :: body))[0]'(by simp)).toNat : Int) == 95) = false := q95
  have r58 : ((((bs (c0 :: body))[0]'(by simp)).toNat : Int) == 58) = false := q58
  have r36 : ((((bs (c0 :: body))[0]'(by simp)).toNat : Int) == 36) = true := q36
  have hfx := Num.prs_bd hp
  have Hfx := Lib.hid hfx
  have HC := Lib.hid (fun w2 (h : Rst w2 g n c A l (n - t.length)) => rbulk_any x w2 h hn hfx)
  rw [HT.out] at HC
  rcases hbk : Rsp.bulk x t with _ | ⟨r, u⟩
  · rw [hbk] at HC
    go_enter Tryd.func23, Tryd.ntmps23
    go_wp2_with fail
    refine hL.mono ?_
    rintro e w1 ⟨⟨rfl, hr1⟩, hg1⟩
    have hB1 := hB.grown hg1 (fun e => by injection e with e; omega)
    go_wp2_with fail
    rw [HTB.out]
    refine (parse_hit (bs body) x w1 hbm (by simpa using hp)).mono ?_
    rintro e w2 ⟨rfl, hb2⟩
    have hr2 := hr1.below hb2 hr1.lt
    have hB2 := hB1.below hb2 hB1.lt
    have hg2 := grown_trans (HG.out _ hg1) (grown_of hb2 _)
    clear hp
    go_wp2_with fail
    refine (HC.out w2 hr2).mono ?_
    rintro e w3 ⟨⟨s, rfl⟩, hg3⟩
    have hB3 := hB2.grown hg3 (fun e => by injection e with e; omega)
    have k0 := hB3.cell 0
    have z0 := hB3.frozen 0
    have k1 := hB3.cell 1
    have z1 := hB3.frozen 1
    have k2 := hB3.cell 2
    have z2 := hB3.frozen 2
    have k3 := hB3.cell 3
    have z3 := hB3.frozen 3
    go_wp2_with fail
    refine bodyPost_ret (ret_cell2 rfl _ _ w.heap.size _ _ _ _ _ rfl (hB3.put4 _ _ _ _)) rfl ?_
    exact ⟨⟨_, _, _, _, _, _, rfl⟩, put4_grown (grown_trans hg2 hg3) (Nat.le_refl _) _ _ _ _⟩
  · rw [hbk] at HC
    go_enter Tryd.func23, Tryd.ntmps23
    go_wp2_with fail
    refine hL.mono ?_
    rintro e w1 ⟨⟨rfl, hr1⟩, hg1⟩
    have hB1 := hB.grown hg1 (fun e => by injection e with e; omega)
    go_wp2_with fail
    rw [HTB.out]
    refine (parse_hit (bs body) x w1 hbm (by simpa using hp)).mono ?_
    rintro e w2 ⟨rfl, hb2⟩
    have hr2 := hr1.below hb2 hr1.lt
    have hB2 := hB1.below hb2 hB1.lt
    have hg2 := grown_trans (HG.out _ hg1) (grown_of hb2 _)
    clear hp
    go_wp2_with fail
    refine (HC.out w2 hr2).mono ?_
    rintro e w3 ⟨⟨rfl, hr, hr3⟩, hg3⟩
    have hB3 := hB2.grown hg3 (fun e => by injection e with e; omega)
    have k0 := hB3.cell 0
    have z0 := hB3.frozen 0
    have k1 := hB3.cell 1
    have z1 := hB3.frozen 1
    have k2 := hB3.cell 2
    have z2 := hB3.frozen 2
    have k3 := hB3.cell 3
    have z3 := hB3.frozen 3
    have HR := Lib.hid hr
    have Hsl := Lib.hid (Rsp.bulk_len hbk)
    clear hr hbk
    go_wp2_with fail
    refine bodyPost_ret (ret_cell2 rfl _ _ w.heap.size _ _ _ _ _ rfl (hB3.put4 _ _ _ _)) rfl ?_
    rw [HR.out]
    refine ⟨⟨⟨none, 0, rfl, RV.flat_ (by unfold fits; omega) (by unfold fits; omega) ?_⟩, put4_rst hr3 hg _ _ _ _⟩, put4_grown (grown_trans hg2 hg3) (Nat.le_refl _) _ _ _ _⟩
    exact Nat.le_trans Hsl.out (by have := h.2.2.2.2.1; have := h.2.2.2.1; have := h.2.2.1; have := congrArg List.length HT.out; simp at this; omega)

set_option maxRecDepth 100000 in
set_option maxHeartbeats 8000000 in
theorem reply_arr (d : Nat) (hd : d ≤ 32) (hR : ReadAt d) {g n c : Nat} {A : Option Addr} {l : List UInt8} {p : Nat} (w : World) (h : Rst w g n c A l p) (hn : n ≤ 1048576) {c0 : UInt8} {body t : List UInt8} (hl : Rsp.lnl (l.drop p) = some (c0 :: body, t)) (q43 : ((c0.toNat : Int) == 43) = false) (q45 : ((c0.toNat : Int) == 45) = false) (q95 : ((c0.toNat : Int) == 95) = false) (q58 : ((c0.toNat : Int) == 58) = false) (q36 : ((c0.toNat : Int) == 36) = false) (q42 : ((c0.toNat : Int) == 42) = true) (x : Int) (hp : Num.prs body = some x) (hx : (x == -1) = false) :
    Calls Tryd.prog 23 #[.pointer (some ⟨g, 0, none⟩), .int .i64 (33 - (d : Int))] w fun e w' => RRet w w' e g n c A l (Rsp.many 7 (Rsp.rd d n) n x x.toNat t) ∧ w.grownBy w' (some g) := by
  have hg := h.lt
  have h1 := h.below ((Below.refl w.heap.size w).alloc (Nat.le_refl _) (.cells #[.int .i64 0, .string ⟨#[]⟩, .int .i64 0, .slice none 0 0] 27)) hg
  have hB := Blk.new w 27 #[.int .i64 0, .string ⟨#[]⟩, .int .i64 0, .slice none 0 0]
  have hL := rline_any _ h1 hn
  have hbl := lnl_len hl
  have hnl := h.2.2.1
  have hbm : (bs body).size ≤ maxLen := by rw [bs_size]; simp at hbl; unfold maxLen; omega
  have Hbm := Lib.hid (show body.length ≤ maxLen by rw [bs_size] at hbm; exact hbm)
  have hb6 : body.length + 1 ≤ 1048576 := by simp at hbl; omega
  obtain ⟨D, hD⟩ : ∃ D : Int, 33 - (d : Int) = D := ⟨_, rfl⟩
  have hD1 : D ≤ 33 := by omega
  have HD := Lib.hid hD
  rw [hD]
  have HG := Lib.hid (fun w1 (hg1 : (w.alloc (.cells #[.int .i64 0, .string ⟨#[]⟩, .int .i64 0, .slice none 0 0] 27)).grownBy w1 (some g)) => (show w.grownBy w1 (some g) from grown_trans (grown_alloc (grown_of (Below.refl _ _) _) _) hg1))
  rw [hl] at hL
  have htb := tail_bs c0 body
  have HTB := Lib.hid htb
  have HT := Lib.hid (show l.drop (n - t.length) = t by rw [hnl]; exact lnl_at hl)
  clear hD hnl hbl hl htb
  have r43 : ((((bs (c0 :: body))[0]'(by simp)).toNat : Int) == 43) = false := q43
  have r45 : ((((bs (c0 :: body))[0]'(by simp)).toNat : Int) == 45) = false := q45
  have r95 : ((((bs (c0 :: body))[0]'(by simp)).toNat : Int) == 95) = false := q95
  have r58 : ((((bs (c0 :: body))[0]'(by simp)).toNat : Int) == 58) = false := q58
  have r36 : ((((bs (c0 :: body))[0]'(by simp)).toNat : Int) == 36) = false := q36
  have r42 : ((((bs (c0 :: body))[0]'(by simp)).toNat : Int) == 42) = true := q42
  have hfx := Num.prs_bd hp
  have Hfx := Lib.hid hfx
  have HC := Lib.hid (fun w2 (h : Rst w2 g n c A l (n - t.length)) => many_not8 d hd hR 7 x w2 h hn hfx rfl (by unfold fits; omega))
  rw [HT.out, HD.out] at HC
  rcases hmk : Rsp.many 7 (Rsp.rd d n) n x x.toNat t with _ | ⟨r, u⟩
  · rw [hmk] at HC
    go_enter Tryd.func23, Tryd.ntmps23
    go_wp2_with fail
    refine hL.mono ?_
    rintro e w1 ⟨⟨rfl, hr1⟩, hg1⟩
    have hB1 := hB.grown hg1 (fun e => by injection e with e; omega)
    go_wp2_with fail
    rw [HTB.out]
    refine (parse_hit (bs body) x w1 hbm (by simpa using hp)).mono ?_
    rintro e w2 ⟨rfl, hb2⟩
    have hr2 := hr1.below hb2 hr1.lt
    have hB2 := hB1.below hb2 hB1.lt
    have hg2 := grown_trans (HG.out _ hg1) (grown_of hb2 _)
    clear hp hmk
    go_wp2_with fail
    refine (HC.out w2 hr2).mono ?_
    rintro e w3 ⟨⟨e0, e1, e2, e3, e4, e5, rfl⟩, hg3⟩
    have hB3 := hB2.grown hg3 (fun e => by injection e with e; omega)
    have k0 := hB3.cell 0
    have z0 := hB3.frozen 0
    have k1 := hB3.cell 1
    have z1 := hB3.frozen 1
    have k2 := hB3.cell 2
    have z2 := hB3.frozen 2
    have k3 := hB3.cell 3
    have z3 := hB3.frozen 3
    go_wp2_with fail
    refine bodyPost_ret (ret_cell2 rfl _ _ w.heap.size _ _ _ _ _ rfl (hB3.put4 _ _ _ _)) rfl ?_
    exact ⟨⟨_, _, _, _, _, _, rfl⟩, put4_grown (grown_trans hg2 hg3) (Nat.le_refl _) _ _ _ _⟩
  · rw [hmk] at HC
    go_enter Tryd.func23, Tryd.ntmps23
    go_wp2_with fail
    refine hL.mono ?_
    rintro e w1 ⟨⟨rfl, hr1⟩, hg1⟩
    have hB1 := hB.grown hg1 (fun e => by injection e with e; omega)
    go_wp2_with fail
    rw [HTB.out]
    refine (parse_hit (bs body) x w1 hbm (by simpa using hp)).mono ?_
    rintro e w2 ⟨rfl, hb2⟩
    have hr2 := hr1.below hb2 hr1.lt
    have hB2 := hB1.below hb2 hB1.lt
    have hg2 := grown_trans (HG.out _ hg1) (grown_of hb2 _)
    clear hp hmk
    go_wp2_with fail
    refine (HC.out w2 hr2).mono ?_
    rintro e w3 ⟨⟨⟨E, f, rfl, hv3⟩, hr3⟩, hg3⟩
    have hB3 := hB2.grown hg3 (fun e => by injection e with e; omega)
    have k0 := hB3.cell 0
    have z0 := hB3.frozen 0
    have k1 := hB3.cell 1
    have z1 := hB3.frozen 1
    have k2 := hB3.cell 2
    have z2 := hB3.frozen 2
    have k3 := hB3.cell 3
    have z3 := hB3.frozen 3
    go_wp2_with fail
    refine bodyPost_ret (ret_cell2 rfl _ _ w.heap.size _ _ _ _ _ rfl (hB3.put4 _ _ _ _)) rfl ?_
    exact ⟨⟨⟨E, f, rfl, put4_rv hv3 hB2.lt _ _ _ _⟩, put4_rst hr3 hg _ _ _ _⟩, put4_grown (grown_trans hg2 hg3) (Nat.le_refl _) _ _ _ _⟩

set_option maxRecDepth 100000 in
set_option maxHeartbeats 8000000 in
theorem reply_map (d : Nat) (hd : d ≤ 32) (hR : ReadAt d) {g n c : Nat} {A : Option Addr} {l : List UInt8} {p : Nat} (w : World) (h : Rst w g n c A l p) (hn : n ≤ 1048576) {c0 : UInt8} {body t : List UInt8} (hl : Rsp.lnl (l.drop p) = some (c0 :: body, t)) (q43 : ((c0.toNat : Int) == 43) = false) (q45 : ((c0.toNat : Int) == 45) = false) (q95 : ((c0.toNat : Int) == 95) = false) (q58 : ((c0.toNat : Int) == 58) = false) (q36 : ((c0.toNat : Int) == 36) = false) (q42 : ((c0.toNat : Int) == 42) = false) (q37 : ((c0.toNat : Int) == 37) = true) (x : Int) (hp : Num.prs body = some x) :
    Calls Tryd.prog 23 #[.pointer (some ⟨g, 0, none⟩), .int .i64 (33 - (d : Int))] w fun e w' => RRet w w' e g n c A l (Rsp.many 8 (Rsp.rd d n) n x (2 * x.toNat) t) ∧ w.grownBy w' (some g) := by
  have hg := h.lt
  have h1 := h.below ((Below.refl w.heap.size w).alloc (Nat.le_refl _) (.cells #[.int .i64 0, .string ⟨#[]⟩, .int .i64 0, .slice none 0 0] 27)) hg
  have hB := Blk.new w 27 #[.int .i64 0, .string ⟨#[]⟩, .int .i64 0, .slice none 0 0]
  have hL := rline_any _ h1 hn
  have hbl := lnl_len hl
  have hnl := h.2.2.1
  have hbm : (bs body).size ≤ maxLen := by rw [bs_size]; simp at hbl; unfold maxLen; omega
  have Hbm := Lib.hid (show body.length ≤ maxLen by rw [bs_size] at hbm; exact hbm)
  have hb6 : body.length + 1 ≤ 1048576 := by simp at hbl; omega
  obtain ⟨D, hD⟩ : ∃ D : Int, 33 - (d : Int) = D := ⟨_, rfl⟩
  have hD1 : D ≤ 33 := by omega
  have HD := Lib.hid hD
  rw [hD]
  have HG := Lib.hid (fun w1 (hg1 : (w.alloc (.cells #[.int .i64 0, .string ⟨#[]⟩, .int .i64 0, .slice none 0 0] 27)).grownBy w1 (some g)) => (show w.grownBy w1 (some g) from grown_trans (grown_alloc (grown_of (Below.refl _ _) _) _) hg1))
  rw [hl] at hL
  have htb := tail_bs c0 body
  have HTB := Lib.hid htb
  have HT := Lib.hid (show l.drop (n - t.length) = t by rw [hnl]; exact lnl_at hl)
  clear hD hnl hbl hl htb
  have r43 : ((((bs (c0 :: body))[0]'(by simp)).toNat : Int) == 43) = false := q43
  have r45 : ((((bs (c0 :: body))[0]'(by simp)).toNat : Int) == 45) = false := q45
  have r95 : ((((bs (c0 :: body))[0]'(by simp)).toNat : Int) == 95) = false := q95
  have r58 : ((((bs (c0 :: body))[0]'(by simp)).toNat : Int) == 58) = false := q58
  have r36 : ((((bs (c0 :: body))[0]'(by simp)).toNat : Int) == 36) = false := q36
  have r42 : ((((bs (c0 :: body))[0]'(by simp)).toNat : Int) == 42) = false := q42
  have r37 : ((((bs (c0 :: body))[0]'(by simp)).toNat : Int) == 37) = true := q37
  have hfx := Num.prs_bd hp
  have Hfx := Lib.hid hfx
  have HC := Lib.hid (fun w2 (h : Rst w2 g n c A l (n - t.length)) => many_8 d hd hR x w2 h hn hfx)
  rw [HT.out, HD.out] at HC
  rcases hmk : Rsp.many 8 (Rsp.rd d n) n x (2 * x.toNat) t with _ | ⟨r, u⟩
  · rw [hmk] at HC
    go_enter Tryd.func23, Tryd.ntmps23
    go_wp2_with fail
    refine hL.mono ?_
    rintro e w1 ⟨⟨rfl, hr1⟩, hg1⟩
    have hB1 := hB.grown hg1 (fun e => by injection e with e; omega)
    go_wp2_with fail
    rw [HTB.out]
    refine (parse_hit (bs body) x w1 hbm (by simpa using hp)).mono ?_
    rintro e w2 ⟨rfl, hb2⟩
    have hr2 := hr1.below hb2 hr1.lt
    have hB2 := hB1.below hb2 hB1.lt
    have hg2 := grown_trans (HG.out _ hg1) (grown_of hb2 _)
    clear hp hmk
    go_wp2_with fail
    refine (HC.out w2 hr2).mono ?_
    rintro e w3 ⟨⟨e0, e1, e2, e3, e4, e5, rfl⟩, hg3⟩
    have hB3 := hB2.grown hg3 (fun e => by injection e with e; omega)
    have k0 := hB3.cell 0
    have z0 := hB3.frozen 0
    have k1 := hB3.cell 1
    have z1 := hB3.frozen 1
    have k2 := hB3.cell 2
    have z2 := hB3.frozen 2
    have k3 := hB3.cell 3
    have z3 := hB3.frozen 3
    go_wp2_with fail
    refine bodyPost_ret (ret_cell2 rfl _ _ w.heap.size _ _ _ _ _ rfl (hB3.put4 _ _ _ _)) rfl ?_
    exact ⟨⟨_, _, _, _, _, _, rfl⟩, put4_grown (grown_trans hg2 hg3) (Nat.le_refl _) _ _ _ _⟩
  · rw [hmk] at HC
    go_enter Tryd.func23, Tryd.ntmps23
    go_wp2_with fail
    refine hL.mono ?_
    rintro e w1 ⟨⟨rfl, hr1⟩, hg1⟩
    have hB1 := hB.grown hg1 (fun e => by injection e with e; omega)
    go_wp2_with fail
    rw [HTB.out]
    refine (parse_hit (bs body) x w1 hbm (by simpa using hp)).mono ?_
    rintro e w2 ⟨rfl, hb2⟩
    have hr2 := hr1.below hb2 hr1.lt
    have hB2 := hB1.below hb2 hB1.lt
    have hg2 := grown_trans (HG.out _ hg1) (grown_of hb2 _)
    clear hp hmk
    go_wp2_with fail
    refine (HC.out w2 hr2).mono ?_
    rintro e w3 ⟨⟨⟨E, f, rfl, hv3⟩, hr3⟩, hg3⟩
    have hB3 := hB2.grown hg3 (fun e => by injection e with e; omega)
    have k0 := hB3.cell 0
    have z0 := hB3.frozen 0
    have k1 := hB3.cell 1
    have z1 := hB3.frozen 1
    have k2 := hB3.cell 2
    have z2 := hB3.frozen 2
    have k3 := hB3.cell 3
    have z3 := hB3.frozen 3
    go_wp2_with fail
    refine bodyPost_ret (ret_cell2 rfl _ _ w.heap.size _ _ _ _ _ rfl (hB3.put4 _ _ _ _)) rfl ?_
    exact ⟨⟨⟨E, f, rfl, put4_rv hv3 hB2.lt _ _ _ _⟩, put4_rst hr3 hg _ _ _ _⟩, put4_grown (grown_trans hg2 hg3) (Nat.le_refl _) _ _ _ _⟩

set_option maxRecDepth 100000 in
set_option maxHeartbeats 8000000 in
theorem reply_set (d : Nat) (hd : d ≤ 32) (hR : ReadAt d) {g n c : Nat} {A : Option Addr} {l : List UInt8} {p : Nat} (w : World) (h : Rst w g n c A l p) (hn : n ≤ 1048576) {c0 : UInt8} {body t : List UInt8} (hl : Rsp.lnl (l.drop p) = some (c0 :: body, t)) (q43 : ((c0.toNat : Int) == 43) = false) (q45 : ((c0.toNat : Int) == 45) = false) (q95 : ((c0.toNat : Int) == 95) = false) (q58 : ((c0.toNat : Int) == 58) = false) (q36 : ((c0.toNat : Int) == 36) = false) (q42 : ((c0.toNat : Int) == 42) = false) (q37 : ((c0.toNat : Int) == 37) = false) (q126 : ((c0.toNat : Int) == 126) = true) (x : Int) (hp : Num.prs body = some x) :
    Calls Tryd.prog 23 #[.pointer (some ⟨g, 0, none⟩), .int .i64 (33 - (d : Int))] w fun e w' => RRet w w' e g n c A l (Rsp.many 9 (Rsp.rd d n) n x x.toNat t) ∧ w.grownBy w' (some g) := by
  have hg := h.lt
  have h1 := h.below ((Below.refl w.heap.size w).alloc (Nat.le_refl _) (.cells #[.int .i64 0, .string ⟨#[]⟩, .int .i64 0, .slice none 0 0] 27)) hg
  have hB := Blk.new w 27 #[.int .i64 0, .string ⟨#[]⟩, .int .i64 0, .slice none 0 0]
  have hL := rline_any _ h1 hn
  have hbl := lnl_len hl
  have hnl := h.2.2.1
  have hbm : (bs body).size ≤ maxLen := by rw [bs_size]; simp at hbl; unfold maxLen; omega
  have Hbm := Lib.hid (show body.length ≤ maxLen by rw [bs_size] at hbm; exact hbm)
  have hb6 : body.length + 1 ≤ 1048576 := by simp at hbl; omega
  obtain ⟨D, hD⟩ : ∃ D : Int, 33 - (d : Int) = D := ⟨_, rfl⟩
  have hD1 : D ≤ 33 := by omega
  have HD := Lib.hid hD
  rw [hD]
  have HG := Lib.hid (fun w1 (hg1 : (w.alloc (.cells #[.int .i64 0, .string ⟨#[]⟩, .int .i64 0, .slice none 0 0] 27)).grownBy w1 (some g)) => (show w.grownBy w1 (some g) from grown_trans (grown_alloc (grown_of (Below.refl _ _) _) _) hg1))
  rw [hl] at hL
  have htb := tail_bs c0 body
  have HTB := Lib.hid htb
  have HT := Lib.hid (show l.drop (n - t.length) = t by rw [hnl]; exact lnl_at hl)
  clear hD hnl hbl hl htb
  have r43 : ((((bs (c0 :: body))[0]'(by simp)).toNat : Int) == 43) = false := q43
  have r45 : ((((bs (c0 :: body))[0]'(by simp)).toNat : Int) == 45) = false := q45
  have r95 : ((((bs (c0 :: body))[0]'(by simp)).toNat : Int) == 95) = false := q95
  have r58 : ((((bs (c0 :: body))[0]'(by simp)).toNat : Int) == 58) = false := q58
  have r36 : ((((bs (c0 :: body))[0]'(by simp)).toNat : Int) == 36) = false := q36
  have r42 : ((((bs (c0 :: body))[0]'(by simp)).toNat : Int) == 42) = false := q42
  have r37 : ((((bs (c0 :: body))[0]'(by simp)).toNat : Int) == 37) = false := q37
  have r126 : ((((bs (c0 :: body))[0]'(by simp)).toNat : Int) == 126) = true := q126
  have hfx := Num.prs_bd hp
  have Hfx := Lib.hid hfx
  have HC := Lib.hid (fun w2 (h : Rst w2 g n c A l (n - t.length)) => many_not8 d hd hR 9 x w2 h hn hfx rfl (by unfold fits; omega))
  rw [HT.out, HD.out] at HC
  rcases hmk : Rsp.many 9 (Rsp.rd d n) n x x.toNat t with _ | ⟨r, u⟩
  · rw [hmk] at HC
    go_enter Tryd.func23, Tryd.ntmps23
    go_wp2_with fail
    refine hL.mono ?_
    rintro e w1 ⟨⟨rfl, hr1⟩, hg1⟩
    have hB1 := hB.grown hg1 (fun e => by injection e with e; omega)
    go_wp2_with fail
    rw [HTB.out]
    refine (parse_hit (bs body) x w1 hbm (by simpa using hp)).mono ?_
    rintro e w2 ⟨rfl, hb2⟩
    have hr2 := hr1.below hb2 hr1.lt
    have hB2 := hB1.below hb2 hB1.lt
    have hg2 := grown_trans (HG.out _ hg1) (grown_of hb2 _)
    clear hp hmk
    go_wp2_with fail
    refine (HC.out w2 hr2).mono ?_
    rintro e w3 ⟨⟨e0, e1, e2, e3, e4, e5, rfl⟩, hg3⟩
    have hB3 := hB2.grown hg3 (fun e => by injection e with e; omega)
    have k0 := hB3.cell 0
    have z0 := hB3.frozen 0
    have k1 := hB3.cell 1
    have z1 := hB3.frozen 1
    have k2 := hB3.cell 2
    have z2 := hB3.frozen 2
    have k3 := hB3.cell 3
    have z3 := hB3.frozen 3
    go_wp2_with fail
    refine bodyPost_ret (ret_cell2 rfl _ _ w.heap.size _ _ _ _ _ rfl (hB3.put4 _ _ _ _)) rfl ?_
    exact ⟨⟨_, _, _, _, _, _, rfl⟩, put4_grown (grown_trans hg2 hg3) (Nat.le_refl _) _ _ _ _⟩
  · rw [hmk] at HC
    go_enter Tryd.func23, Tryd.ntmps23
    go_wp2_with fail
    refine hL.mono ?_
    rintro e w1 ⟨⟨rfl, hr1⟩, hg1⟩
    have hB1 := hB.grown hg1 (fun e => by injection e with e; omega)
    go_wp2_with fail
    rw [HTB.out]
    refine (parse_hit (bs body) x w1 hbm (by simpa using hp)).mono ?_
    rintro e w2 ⟨rfl, hb2⟩
    have hr2 := hr1.below hb2 hr1.lt
    have hB2 := hB1.below hb2 hB1.lt
    have hg2 := grown_trans (HG.out _ hg1) (grown_of hb2 _)
    clear hp hmk
    go_wp2_with fail
    refine (HC.out w2 hr2).mono ?_
    rintro e w3 ⟨⟨⟨E, f, rfl, hv3⟩, hr3⟩, hg3⟩
    have hB3 := hB2.grown hg3 (fun e => by injection e with e; omega)
    have k0 := hB3.cell 0
    have z0 := hB3.frozen 0
    have k1 := hB3.cell 1
    have z1 := hB3.frozen 1
    have k2 := hB3.cell 2
    have z2 := hB3.frozen 2
    have k3 := hB3.cell 3
    have z3 := hB3.frozen 3
    go_wp2_with fail
    refine bodyPost_ret (ret_cell2 rfl _ _ w.heap.size _ _ _ _ _ rfl (hB3.put4 _ _ _ _)) rfl ?_
    exact ⟨⟨⟨E, f, rfl, put4_rv hv3 hB2.lt _ _ _ _⟩, put4_rst hr3 hg _ _ _ _⟩, put4_grown (grown_trans hg2 hg3) (Nat.le_refl _) _ _ _ _⟩
end Go.Proofs.YtjdnpgdedbegfaaDoor
