/- The walks of rest's reply, by a line's first byte. -/
import Derived.Test.YtjdnpgdedbegfaaDoorRspL
namespace Go.Proofs.YtjdnpgdedbegfaaDoor
open Go.RowKit Go.Shelf
set_option linter.unusedVariables false

theorem tail_bs (c : UInt8) (body : List UInt8) : (bs (c :: body)).extract 1 (body.length + 1) = bs body := by rw [bs_extract]; simp
theorem lnl_len {l s t : List UInt8} {p : Nat} (h : Rsp.lnl (l.drop p) = some (s, t)) : s.length ≤ l.length := by
  obtain ⟨q, h1, h2⟩ := Rsp.lnl_suf h
  have := congrArg List.length h1
  simp at this; omega
theorem RV.flat_ {w : World} {S : Nat → Prop} {k n : Int} {s : List UInt8} (hk : fits k) (hn : fits n) (hs : s.length ≤ maxLen) : RV w S (.mk k s n []) [.int .i64 k, sv s, .int .i64 n, .slice none 0 0] :=
  RV.mk_ hk hn hs (Nat.le_refl _) (Nat.zero_le _) (RD.nil _ _ _) RLs.nil
theorem ret_no {v : Value} {b b' : Bool} (h : b = b') : Ending.returned (.tuple #[v, .bool b]) = .returned (.tuple #[v, .bool b']) := by rw [h]
theorem parse_miss (s : ByteArray) (w : World) (hl : s.size ≤ maxLen) (h : Num.prs s.data.toList = none) : Calls Tryd.prog 34 #[.string s] w fun e w' => (e = .returned (.tuple #[.int .i64 0, .bool false])) ∧ Below w.heap.size w w' :=
  (parse_any s w hl).mono fun e w' hh => by rw [h] at hh; exact hh
theorem parse_hit (s : ByteArray) (n : Int) (w : World) (hl : s.size ≤ maxLen) (h : Num.prs s.data.toList = some n) : Calls Tryd.prog 34 #[.string s] w fun e w' => (e = .returned (.tuple #[.int .i64 n, .bool true])) ∧ Below w.heap.size w w' :=
  (parse_any s w hl).mono fun e w' hh => by rw [h] at hh; exact hh

set_option maxRecDepth 100000 in
set_option maxHeartbeats 8000000 in
theorem reply_plus (d : Nat) (hd : d ≤ 32) {g n c : Nat} {A : Option Addr} {l : List UInt8} {p : Nat} (w : World) (h : Rst w g n c A l p) (hn : n ≤ 1048576) {c0 : UInt8} {body t : List UInt8} (hl : Rsp.lnl (l.drop p) = some (c0 :: body, t)) (q43 : ((c0.toNat : Int) == 43) = true) :
    Calls Tryd.prog 23 #[.pointer (some ⟨g, 0, none⟩), .int .i64 (33 - (d : Int))] w fun e w' => RRet w w' e g n c A l (some (.mk 1 body 0 [], t)) ∧ w.grownBy w' (some g) := by
  have hg := h.lt
  have h1 := h.below ((Below.refl w.heap.size w).alloc (Nat.le_refl _) (.cells #[.int .i64 0, .string ⟨#[]⟩, .int .i64 0, .slice none 0 0] 27)) hg
  have hB := Blk.new w 27 #[.int .i64 0, .string ⟨#[]⟩, .int .i64 0, .slice none 0 0]
  have hL := rline_any _ h1 hn
  have hbl := lnl_len hl
  have hnl := h.2.2.1
  have hbm : (bs body).size ≤ maxLen := by rw [bs_size]; simp at hbl; unfold maxLen; omega
  have Hbm := Lib.hid (show body.length ≤ maxLen by rw [bs_size] at hbm; exact hbm)
  have hb6 : body.length + 1 ≤ 1048576 := by simp at hbl; omega
  obtain ⟨D, hD⟩ : ∃ D : Int, 33 - (d : Int) = D := ⟨_, rfl⟩
  have hD1 : D ≤ 33 := by omega
  have HD := Lib.hid hD
  rw [hD]
  have HG := Lib.hid (fun w1 (hg1 : (w.alloc (.cells #[.int .i64 0, .string ⟨#[]⟩, .int .i64 0, .slice none 0 0] 27)).grownBy w1 (some g)) => (show w.grownBy w1 (some g) from grown_trans (grown_alloc (grown_of (Below.refl _ _) _) _) hg1))
  rw [hl] at hL
  have htb := tail_bs c0 body
  have HTB := Lib.hid htb
  clear hD hnl hbl hl htb
  have r43 : ((((bs (c0 :: body))[0]'(by simp)).toNat : Int) == 43) = true := q43
  rcases hp : Num.prs body with _ | x
  · go_enter Tryd.func23, Tryd.ntmps23
    go_wp2_with fail
    refine hL.mono ?_
    rintro e w1 ⟨⟨rfl, hr1⟩, hg1⟩
    have hB1 := hB.grown hg1 (fun e => by injection e with e; omega)
    go_wp2_with fail
    rw [HTB.out]
    refine (parse_miss (bs body) w1 hbm (by simpa using hp)).mono ?_
    rintro e w2 ⟨rfl, hb2⟩
    have hr2 := hr1.below hb2 hr1.lt
    have hB2 := hB1.below hb2 hB1.lt
    have hg2 := grown_trans (HG.out _ hg1) (grown_of hb2 _)
    have k0 := hB2.cell 0
    have z0 := hB2.frozen 0
    have k1 := hB2.cell 1
    have z1 := hB2.frozen 1
    have k2 := hB2.cell 2
    have z2 := hB2.frozen 2
    have k3 := hB2.cell 3
    have z3 := hB2.frozen 3
    clear hp
    go_wp2_with fail
    refine bodyPost_ret (ret_cell2 rfl _ _ w.heap.size _ _ _ _ _ rfl (hB2.put4 _ _ _ _)) rfl ?_
    exact ⟨⟨⟨none, 0, rfl, RV.flat_ (by unfold fits; omega) (by unfold fits; omega) Hbm.out⟩, put4_rst hr2 hg _ _ _ _⟩, put4_grown hg2 (Nat.le_refl _) _ _ _ _⟩
  · go_enter Tryd.func23, Tryd.ntmps23
    go_wp2_with fail
    refine hL.mono ?_
    rintro e w1 ⟨⟨rfl, hr1⟩, hg1⟩
    have hB1 := hB.grown hg1 (fun e => by injection e with e; omega)
    go_wp2_with fail
    rw [HTB.out]
    refine (parse_hit (bs body) x w1 hbm (by simpa using hp)).mono ?_
    rintro e w2 ⟨rfl, hb2⟩
    have hr2 := hr1.below hb2 hr1.lt
    have hB2 := hB1.below hb2 hB1.lt
    have hg2 := grown_trans (HG.out _ hg1) (grown_of hb2 _)
    have k0 := hB2.cell 0
    have z0 := hB2.frozen 0
    have k1 := hB2.cell 1
    have z1 := hB2.frozen 1
    have k2 := hB2.cell 2
    have z2 := hB2.frozen 2
    have k3 := hB2.cell 3
    have z3 := hB2.frozen 3
    clear hp
    go_wp2_with fail
    refine bodyPost_ret (ret_cell2 rfl _ _ w.heap.size _ _ _ _ _ rfl (hB2.put4 _ _ _ _)) rfl ?_
    exact ⟨⟨⟨none, 0, rfl, RV.flat_ (by unfold fits; omega) (by unfold fits; omega) Hbm.out⟩, put4_rst hr2 hg _ _ _ _⟩, put4_grown hg2 (Nat.le_refl _) _ _ _ _⟩

set_option maxRecDepth 100000 in
set_option maxHeartbeats 8000000 in
theorem reply_minus (d : Nat) (hd : d ≤ 32) {g n c : Nat} {A : Option Addr} {l : List UInt8} {p : Nat} (w : World) (h : Rst w g n c A l p) (hn : n ≤ 1048576) {c0 : UInt8} {body t : List UInt8} (hl : Rsp.lnl (l.drop p) = some (c0 :: body, t)) (q43 : ((c0.toNat : Int) == 43) = false) (q45 : ((c0.toNat : Int) == 45) = true) :
    Calls Tryd.prog 23 #[.pointer (some ⟨g, 0, none⟩), .int .i64 (33 - (d : Int))] w fun e w' => RRet w w' e g n c A l (some (.mk 2 body 0 [], t)) ∧ w.grownBy w' (some g) := by
  have hg := h.lt
  have h1 := h.below ((Below.refl w.heap.size w).alloc (Nat.le_refl _) (.cells #[.int .i64 0, .string ⟨#[]⟩, .int .i64 0, .slice none 0 0] 27)) hg
  have hB := Blk.new w 27 #[.int .i64 0, .string ⟨#[]⟩, .int .i64 0, .slice none 0 0]
  have hL := rline_any _ h1 hn
  have hbl := lnl_len hl
  have hnl := h.2.2.1
  have hbm : (bs body).size ≤ maxLen := by rw [bs_size]; simp at hbl; unfold maxLen; omega
  have Hbm := Lib.hid (show body.length ≤ maxLen by rw [bs_size] at hbm; exact hbm)
  have hb6 : body.length + 1 ≤ 1048576 := by simp at hbl; omega
  obtain ⟨D, hD⟩ : ∃ D : Int, 33 - (d : Int) = D := ⟨_, rfl⟩
  have hD1 : D ≤ 33 := by omega
  have HD := Lib.hid hD
  rw [hD]
  have HG := Lib.hid (fun w1 (hg1 : (w.alloc (.cells #[.int .i64 0, .string ⟨#[]⟩, .int .i64 0, .slice none 0 0] 27)).grownBy w1 (some g)) => (show w.grownBy w1 (some g) from grown_trans (grown_alloc (grown_of (Below.refl _ _) _) _) hg1))
  rw [hl] at hL
  have htb := tail_bs c0 body
  have HTB := Lib.hid htb
  clear hD hnl hbl hl htb
  have r43 : ((((bs (c0 :: body))[0]'(by simp)).toNat : Int) == 43) = false := q43
  have r45 : ((((bs (c0 :: body))[0]'(by simp)).toNat : Int) == 45) = true := q45
  rcases hp : Num.prs body with _ | x
  · go_enter Tryd.func23, Tryd.ntmps23
    go_wp2_with fail
    refine hL.mono ?_
    rintro e w1 ⟨⟨rfl, hr1⟩, hg1⟩
    have hB1 := hB.grown hg1 (fun e => by injection e with e; omega)
    go_wp2_with fail
    rw [HTB.out]
    refine (parse_miss (bs body) w1 hbm (by simpa using hp)).mono ?_
    rintro e w2 ⟨rfl, hb2⟩
    have hr2 := hr1.below hb2 hr1.lt
    have hB2 := hB1.below hb2 hB1.lt
    have hg2 := grown_trans (HG.out _ hg1) (grown_of hb2 _)
    have k0 := hB2.cell 0
    have z0 := hB2.frozen 0
    have k1 := hB2.cell 1
    have z1 := hB2.frozen 1
    have k2 := hB2.cell 2
    have z2 := hB2.frozen 2
    have k3 := hB2.cell 3
    have z3 := hB2.frozen 3
    clear hp
    go_wp2_with fail
    refine bodyPost_ret (ret_cell2 rfl _ _ w.heap.size _ _ _ _ _ rfl (hB2.put4 _ _ _ _)) rfl ?_
    exact ⟨⟨⟨none, 0, rfl, RV.flat_ (by unfold fits; omega) (by unfold fits; omega) Hbm.out⟩, put4_rst hr2 hg _ _ _ _⟩, put4_grown hg2 (Nat.le_refl _) _ _ _ _⟩
  · go_enter Tryd.func23, Tryd.ntmps23
    go_wp2_with fail
    refine hL.mono ?_
    rintro e w1 ⟨⟨rfl, hr1⟩, hg1⟩
    have hB1 := hB.grown hg1 (fun e => by injection e with e; omega)
    go_wp2_with fail
    rw [HTB.out]
    refine (parse_hit (bs body) x w1 hbm (by simpa using hp)).mono ?_
    rintro e w2 ⟨rfl, hb2⟩
    have hr2 := hr1.below hb2 hr1.lt
    have hB2 := hB1.below hb2 hB1.lt
    have hg2 := grown_trans (HG.out _ hg1) (grown_of hb2 _)
    have k0 := hB2.cell 0
    have z0 := hB2.frozen 0
    have k1 := hB2.cell 1
    have z1 := hB2.frozen 1
    have k2 := hB2.cell 2
    have z2 := hB2.frozen 2
    have k3 := hB2.cell 3
    have z3 := hB2.frozen 3
    clear hp
    go_wp2_with fail
    refine bodyPost_ret (ret_cell2 rfl _ _ w.heap.size _ _ _ _ _ rfl (hB2.put4 _ _ _ _)) rfl ?_
    exact ⟨⟨⟨none, 0, rfl, RV.flat_ (by unfold fits; omega) (by unfold fits; omega) Hbm.out⟩, put4_rst hr2 hg _ _ _ _⟩, put4_grown hg2 (Nat.le_refl _) _ _ _ _⟩

set_option maxRecDepth 100000 in
set_option maxHeartbeats 8000000 in
theorem reply_null (d : Nat) (hd : d ≤ 32) {g n c : Nat} {A : Option Addr} {l : List UInt8} {p : Nat} (w : World) (h : Rst w g n c A l p) (hn : n ≤ 1048576) {c0 : UInt8} {body t : List UInt8} (hl : Rsp.lnl (l.drop p) = some (c0 :: body, t)) (q43 : ((c0.toNat : Int) == 43) = false) (q45 : ((c0.toNat : Int) == 45) = false) (q95 : ((c0.toNat : Int) == 95) = true) (hb : (body == []) = true) :
    Calls Tryd.prog 23 #[.pointer (some ⟨g, 0, none⟩), .int .i64 (33 - (d : Int))] w fun e w' => RRet w w' e g n c A l (some (.mk 5 [] 0 [], t)) ∧ w.grownBy w' (some g) := by
  have hg := h.lt
  have h1 := h.below ((Below.refl w.heap.size w).alloc (Nat.le_refl _) (.cells #[.int .i64 0, .string ⟨#[]⟩, .int .i64 0, .slice none 0 0] 27)) hg
  have hB := Blk.new w 27 #[.int .i64 0, .string ⟨#[]⟩, .int .i64 0, .slice none 0 0]
  have hL := rline_any _ h1 hn
  have hbl := lnl_len hl
  have hnl := h.2.2.1
  have hbm : (bs body).size ≤ maxLen := by rw [bs_size]; simp at hbl; unfold maxLen; omega
  have Hbm := Lib.hid (show body.length ≤ maxLen by rw [bs_size] at hbm; exact hbm)
  have hb6 : body.length + 1 ≤ 1048576 := by simp at hbl; omega
  obtain ⟨D, hD⟩ : ∃ D : Int, 33 - (d : Int) = D := ⟨_, rfl⟩
  have hD1 : D ≤ 33 := by omega
  have HD := Lib.hid hD
  rw [hD]
  have HG := Lib.hid (fun w1 (hg1 : (w.alloc (.cells #[.int .i64 0, .string ⟨#[]⟩, .int .i64 0, .slice none 0 0] 27)).grownBy w1 (some g)) => (show w.grownBy w1 (some g) from grown_trans (grown_alloc (grown_of (Below.refl _ _) _) _) hg1))
  rw [hl] at hL
  have htb := tail_bs c0 body
  have HTB := Lib.hid htb
  clear hD hnl hbl hl htb
  have r43 : ((((bs (c0 :: body))[0]'(by simp)).toNat : Int) == 43) = false := q43
  have r45 : ((((bs (c0 :: body))[0]'(by simp)).toNat : Int) == 45) = false := q45
  have r95 : ((((bs (c0 :: body))[0]'(by simp)).toNat : Int) == 95) = true := q95
  rcases hp : Num.prs body with _ | x
  · go_enter Tryd.func23, Tryd.ntmps23
    go_wp2_with fail
    refine hL.mono ?_
    rintro e w1 ⟨⟨rfl, hr1⟩, hg1⟩
    have hB1 := hB.grown hg1 (fun e => by injection e with e; omega)
    go_wp2_with fail
    rw [HTB.out]
    refine (parse_miss (bs body) w1 hbm (by simpa using hp)).mono ?_
    rintro e w2 ⟨rfl, hb2⟩
    have hr2 := hr1.below hb2 hr1.lt
    have hB2 := hB1.below hb2 hB1.lt
    have hg2 := grown_trans (HG.out _ hg1) (grown_of hb2 _)
    have k0 := hB2.cell 0
    have z0 := hB2.frozen 0
    have k1 := hB2.cell 1
    have z1 := hB2.frozen 1
    have k2 := hB2.cell 2
    have z2 := hB2.frozen 2
    have k3 := hB2.cell 3
    have z3 := hB2.frozen 3
    clear hp
    go_wp2_with fail
    refine bodyPost_ret (ret_cell2 rfl _ _ w.heap.size _ _ _ _ _ rfl (hB2.put4 _ _ _ _)) rfl ?_
    exact ⟨⟨⟨none, 0, rfl, RV.flat_ (by unfold fits; omega) (by unfold fits; omega) (by simp)⟩, put4_rst hr2 hg _ _ _ _⟩, put4_grown hg2 (Nat.le_refl _) _ _ _ _⟩
  · go_enter Tryd.func23, Tryd.ntmps23
    go_wp2_with fail
    refine hL.mono ?_
    rintro e w1 ⟨⟨rfl, hr1⟩, hg1⟩
    have hB1 := hB.grown hg1 (fun e => by injection e with e; omega)
    go_wp2_with fail
    rw [HTB.out]
    refine (parse_hit (bs body) x w1 hbm (by simpa using hp)).mono ?_
    rintro e w2 ⟨rfl, hb2⟩
    have hr2 := hr1.below hb2 hr1.lt
    have hB2 := hB1.below hb2 hB1.lt
    have hg2 := grown_trans (HG.out _ hg1) (grown_of hb2 _)
    have k0 := hB2.cell 0
    have z0 := hB2.frozen 0
    have k1 := hB2.cell 1
    have z1 := hB2.frozen 1
    have k2 := hB2.cell 2
    have z2 := hB2.frozen 2
    have k3 := hB2.cell 3
    have z3 := hB2.frozen 3
    clear hp
    go_wp2_with fail
    refine bodyPost_ret (ret_cell2 rfl _ _ w.heap.size _ _ _ _ _ rfl (hB2.put4 _ _ _ _)) rfl ?_
    exact ⟨⟨⟨none, 0, rfl, RV.flat_ (by unfold fits; omega) (by unfold fits; omega) (by simp)⟩, put4_rst hr2 hg _ _ _ _⟩, put4_grown hg2 (Nat.le_refl _) _ _ _ _⟩

set_option maxRecDepth 100000 in
set_option maxHeartbeats 8000000 in
theorem reply_nonull (d : Nat) (hd : d ≤ 32) {g n c : Nat} {A : Option Addr} {l : List UInt8} {p : Nat} (w : World) (h : Rst w g n c A l p) (hn : n ≤ 1048576) {c0 : UInt8} {body t : List UInt8} (hl : Rsp.lnl (l.drop p) = some (c0 :: body, t)) (q43 : ((c0.toNat : Int) == 43) = false) (q45 : ((c0.toNat : Int) == 45) = false) (q95 : ((c0.toNat : Int) == 95) = true) (hb : (body == []) = false) :
    Calls Tryd.prog 23 #[.pointer (some ⟨g, 0, none⟩), .int .i64 (33 - (d : Int))] w fun e w' => RRet w w' e g n c A l (none) ∧ w.grownBy w' (some g) := by
  have hg := h.lt
  have h1 := h.below ((Below.refl w.heap.size w).alloc (Nat.le_refl _) (.cells #[.int .i64 0, .string ⟨#[]⟩, .int .i64 0, .slice none 0 0] 27)) hg
  have hB := Blk.new w 27 #[.int .i64 0, .string ⟨#[]⟩, .int .i64 0, .slice none 0 0]
  have hL := rline_any _ h1 hn
  have hbl := lnl_len hl
  have hnl := h.2.2.1
  have hbm : (bs body).size ≤ maxLen := by rw [bs_size]; simp at hbl; unfold maxLen; omega
  have Hbm := Lib.hid (show body.length ≤ maxLen by rw [bs_size] at hbm; exact hbm)
  have hb6 : body.length + 1 ≤ 1048576 := by simp at hbl; omega
  obtain ⟨D, hD⟩ : ∃ D : Int, 33 - (d : Int) = D := ⟨_, rfl⟩
  have hD1 : D ≤ 33 := by omega
  have HD := Lib.hid hD
  rw [hD]
  have HG := Lib.hid (fun w1 (hg1 : (w.alloc (.cells #[.int .i64 0, .string ⟨#[]⟩, .int .i64 0, .slice none 0 0] 27)).grownBy w1 (some g)) => (show w.grownBy w1 (some g) from grown_trans (grown_alloc (grown_of (Below.refl _ _) _) _) hg1))
  rw [hl] at hL
  have htb := tail_bs c0 body
  have HTB := Lib.hid htb
  clear hD hnl hbl hl htb
  have r43 : ((((bs (c0 :: body))[0]'(by simp)).toNat : Int) == 43) = false := q43
  have r45 : ((((bs (c0 :: body))[0]'(by simp)).toNat : Int) == 45) = false := q45
  have r95 : ((((bs (c0 :: body))[0]'(by simp)).toNat : Int) == 95) = true := q95
  rcases hp : Num.prs body with _ | x
  · go_enter Tryd.func23, Tryd.ntmps23
    go_wp2_with fail
    refine hL.mono ?_
    rintro e w1 ⟨⟨rfl, hr1⟩, hg1⟩
    have hB1 := hB.grown hg1 (fun e => by injection e with e; omega)
    go_wp2_with fail
    rw [HTB.out]
    refine (parse_miss (bs body) w1 hbm (by simpa using hp)).mono ?_
    rintro e w2 ⟨rfl, hb2⟩
    have hr2 := hr1.below hb2 hr1.lt
    have hB2 := hB1.below hb2 hB1.lt
    have hg2 := grown_trans (HG.out _ hg1) (grown_of hb2 _)
    have k0 := hB2.cell 0
    have z0 := hB2.frozen 0
    have k1 := hB2.cell 1
    have z1 := hB2.frozen 1
    have k2 := hB2.cell 2
    have z2 := hB2.frozen 2
    have k3 := hB2.cell 3
    have z3 := hB2.frozen 3
    clear hp
    go_wp2_with fail
    refine bodyPost_ret (ret_cell2 rfl _ _ w.heap.size _ _ _ _ _ rfl (hB2.put4 _ _ _ _)) rfl ?_
    exact ⟨⟨_, _, _, _, _, _, rfl⟩, put4_grown hg2 (Nat.le_refl _) _ _ _ _⟩
  · go_enter Tryd.func23, Tryd.ntmps23
    go_wp2_with fail
    refine hL.mono ?_
    rintro e w1 ⟨⟨rfl, hr1⟩, hg1⟩
    have hB1 := hB.grown hg1 (fun e => by injection e with e; omega)
    go_wp2_with fail
    rw [HTB.out]
    refine (parse_hit (bs body) x w1 hbm (by simpa using hp)).mono ?_
    rintro e w2 ⟨rfl, hb2⟩
    have hr2 := hr1.below hb2 hr1.lt
    have hB2 := hB1.below hb2 hB1.lt
    have hg2 := grown_trans (HG.out _ hg1) (grown_of hb2 _)
    have k0 := hB2.cell 0
    have z0 := hB2.frozen 0
    have k1 := hB2.cell 1
    have z1 := hB2.frozen 1
    have k2 := hB2.cell 2
    have z2 := hB2.frozen 2
    have k3 := hB2.cell 3
    have z3 := hB2.frozen 3
    clear hp
    go_wp2_with fail
    refine bodyPost_ret (ret_cell2 rfl _ _ w.heap.size _ _ _ _ _ rfl (hB2.put4 _ _ _ _)) rfl ?_
    exact ⟨⟨_, _, _, _, _, _, rfl⟩, put4_grown hg2 (Nat.le_refl _) _ _ _ _⟩

set_option maxRecDepth 100000 in
set_option maxHeartbeats 8000000 in
theorem reply_nonum (d : Nat) (hd : d ≤ 32) {g n c : Nat} {A : Option Addr} {l : List UInt8} {p : Nat} (w : World) (h : Rst w g n c A l p) (hn : n ≤ 1048576) {c0 : UInt8} {body t : List UInt8} (hl : Rsp.lnl (l.drop p) = some (c0 :: body, t)) (q43 : ((c0.toNat : Int) == 43) = false) (q45 : ((c0.toNat : Int) == 45) = false) (q95 : ((c0.toNat : Int) == 95) = false) (hp : Num.prs body = none) :
    Calls Tryd.prog 23 #[.pointer (some ⟨g, 0, none⟩), .int .i64 (33 - (d : Int))] w fun e w' => RRet w w' e g n c A l (none) ∧ w.grownBy w' (some g) := by
  have hg := h.lt
  have h1 := h.below ((Below.refl w.heap.size w).alloc (Nat.le_refl _) (.cells #[.int .i64 0, .string ⟨#[]⟩, .int .i64 0, .slice none 0 0] 27)) hg
  have hB := Blk.new w 27 #[.int .i64 0, .string ⟨#[]⟩, .int .i64 0, .slice none 0 0]
  have hL := rline_any _ h1 hn
  have hbl := lnl_len hl
  have hnl := h.2.2.1
  have hbm : (bs body).size ≤ maxLen := by rw [bs_size]; simp at hbl; unfold maxLen; omega
  have Hbm := Lib.hid (show body.length ≤ maxLen by rw [bs_size] at hbm; exact hbm)
  have hb6 : body.length + 1 ≤ 1048576 := by simp at hbl; omega
  obtain ⟨D, hD⟩ : ∃ D : Int, 33 - (d : Int) = D := ⟨_, rfl⟩
  have hD1 : D ≤ 33 := by omega
  have HD := Lib.hid hD
  rw [hD]
  have HG := Lib.hid (fun w1 (hg1 : (w.alloc (.cells #[.int .i64 0, .string ⟨#[]⟩, .int .i64 0, .slice none 0 0] 27)).grownBy w1 (some g)) => (show w.grownBy w1 (some g) from grown_trans (grown_alloc (grown_of (Below.refl _ _) _) _) hg1))
  rw [hl] at hL
  have htb := tail_bs c0 body
  have HTB := Lib.hid htb
  clear hD hnl hbl hl htb
  have r43 : ((((bs (c0 :: body))[0]'(by simp)).toNat : Int) == 43) = false := q43
  have r45 : ((((bs (c0 :: body))[0]'(by simp)).toNat : Int) == 45) = false := q45
  have r95 : ((((bs (c0 :: body))[0]'(by simp)).toNat : Int) == 95) = false := q95
  go_enter Tryd.func23, Tryd.ntmps23
  go_wp2_with fail
  refine hL.mono ?_
  rintro e w1 ⟨⟨rfl, hr1⟩, hg1⟩
  have hB1 := hB.grown hg1 (fun e => by injection e with e; omega)
  go_wp2_with fail
  rw [HTB.out]
  refine (parse_miss (bs body) w1 hbm (by simpa using hp)).mono ?_
  rintro e w2 ⟨rfl, hb2⟩
  have hr2 := hr1.below hb2 hr1.lt
  have hB2 := hB1.below hb2 hB1.lt
  have hg2 := grown_trans (HG.out _ hg1) (grown_of hb2 _)
  have k0 := hB2.cell 0
  have z0 := hB2.frozen 0
  have k1 := hB2.cell 1
  have z1 := hB2.frozen 1
  have k2 := hB2.cell 2
  have z2 := hB2.frozen 2
  have k3 := hB2.cell 3
  have z3 := hB2.frozen 3
  clear hp
  go_wp2_with fail
  refine bodyPost_ret (ret_cell2 rfl _ _ w.heap.size _ _ _ _ _ rfl (hB2.put4 _ _ _ _)) rfl ?_
  exact ⟨⟨_, _, _, _, _, _, rfl⟩, put4_grown hg2 (Nat.le_refl _) _ _ _ _⟩

set_option maxRecDepth 100000 in
set_option maxHeartbeats 8000000 in
theorem reply_int (d : Nat) (hd : d ≤ 32) {g n c : Nat} {A : Option Addr} {l : List UInt8} {p : Nat} (w : World) (h : Rst w g n c A l p) (hn : n ≤ 1048576) {c0 : UInt8} {body t : List UInt8} (hl : Rsp.lnl (l.drop p) = some (c0 :: body, t)) (q43 : ((c0.toNat : Int) == 43) = false) (q45 : ((c0.toNat : Int) == 45) = false) (q95 : ((c0.toNat : Int) == 95) = false) (q58 : ((c0.toNat : Int) == 58) = true) (x : Int) (hp : Num.prs body = some x) :
    Calls Tryd.prog 23 #[.pointer (some ⟨g, 0, none⟩), .int .i64 (33 - (d : Int))] w fun e w' => RRet w w' e g n c A l (some (.mk 3 [] x [], t)) ∧ w.grownBy w' (some g) := by
  have hg := h.lt
  have h1 := h.below ((Below.refl w.heap.size w).alloc (Nat.le_refl _) (.cells #[.int .i64 0, .string ⟨#[]⟩, .int .i64 0, .slice none 0 0] 27)) hg
  have hB := Blk.new w 27 #[.int .i64 0, .string ⟨#[]⟩, .int .i64 0, .slice none 0 0]
  have hL := rline_any _ h1 hn
  have hbl := lnl_len hl
  have hnl := h.2.2.1
  have hbm : (bs body).size ≤ maxLen := by rw [bs_size]; simp at hbl; unfold maxLen; omega
  have Hbm := Lib.hid (show body.length ≤ maxLen by rw [bs_size] at hbm; exact hbm)
  have hb6 : body.length + 1 ≤ 1048576 := by simp at hbl; omega
  obtain ⟨D, hD⟩ : ∃ D : Int, 33 - (d : Int) = D := ⟨_, rfl⟩
  have hD1 : D ≤ 33 := by omega
  have HD := Lib.hid hD
  rw [hD]
  have HG := Lib.hid (fun w1 (hg1 : (w.alloc (.cells #[.int .i64 0, .string ⟨#[]⟩, .int .i64 0, .slice none 0 0] 27)).grownBy w1 (some g)) => (show w.grownBy w1 (some g) from grown_trans (grown_alloc (grown_of (Below.refl _ _) _) _) hg1))
  rw [hl] at hL
  have htb := tail_bs c0 body
  have HTB := Lib.hid htb
  clear hD hnl hbl hl htb
  have r43 : ((((bs (c0 :: body))[0]'(by simp)).toNat : Int) == 43) = false := q43
  have r45 : ((((bs (c0 :: body))[0]'(by simp)).toNat : Int) == 45) = false := q45
  have r95 : ((((bs (c0 :: body))[0]'(by simp)).toNat : Int) == 95) = false := q95
  have r58 : ((((bs (c0 :: body))[0]'(by simp)).toNat : Int) == 58) = true := q58
  have hfx := Num.prs_bd hp
  have Hfx := Lib.hid hfx
  go_enter Tryd.func23, Tryd.ntmps23
  go_wp2_with fail
  refine hL.mono ?_
  rintro e w1 ⟨⟨rfl, hr1⟩, hg1⟩
  have hB1 := hB.grown hg1 (fun e => by injection e with e; omega)
  go_wp2_with fail
  rw [HTB.out]
  refine (parse_hit (bs body) x w1 hbm (by simpa using hp)).mono ?_
  rintro e w2 ⟨rfl, hb2⟩
  have hr2 := hr1.below hb2 hr1.lt
  have hB2 := hB1.below hb2 hB1.lt
  have hg2 := grown_trans (HG.out _ hg1) (grown_of hb2 _)
  have k0 := hB2.cell 0
  have z0 := hB2.frozen 0
  have k1 := hB2.cell 1
  have z1 := hB2.frozen 1
  have k2 := hB2.cell 2
  have z2 := hB2.frozen 2
  have k3 := hB2.cell 3
  have z3 := hB2.frozen 3
  clear hp
  go_wp2_with fail
  refine bodyPost_ret (ret_cell2 rfl _ _ w.heap.size _ _ _ _ _ rfl (hB2.put4 _ _ _ _)) rfl ?_
  exact ⟨⟨⟨none, 0, rfl, RV.flat_ (by unfold fits; omega) Hfx.out (by simp)⟩, put4_rst hr2 hg _ _ _ _⟩, put4_grown hg2 (Nat.le_refl _) _ _ _ _⟩

set_option maxRecDepth 100000 in
set_option maxHeartbeats 8000000 in
theorem reply_nbulk (d : Nat) (hd : d ≤ 32) {g n c : Nat} {A : Option Addr} {l : List UInt8} {p : Nat} (w : World) (h : Rst w g n c A l p) (hn : n ≤ 1048576) {c0 : UInt8} {body t : List UInt8} (hl : Rsp.lnl (l.drop p) = some (c0 :: body, t)) (q43 : ((c0.toNat : Int) == 43) = false) (q45 : ((c0.toNat : Int) == 45) = false) (q95 : ((c0.toNat : Int) == 95) = false) (q58 : ((c0.toNat : Int) == 58) = false) (q36 : ((c0.toNat : Int) == 36) = true) (x : Int) (hp : Num.prs body = some x) (hx : (x == -1) = true) :
    Calls Tryd.prog 23 #[.pointer (some ⟨g, 0, none⟩), .int .i64 (33 - (d : Int))] w fun e w' => RRet w w' e g n c A l (some (.mk 5 [] 0 [], t)) ∧ w.grownBy w' (some g) := by
  have hg := h.lt
  have h1 := h.below ((Below.refl w.heap.size w).alloc (Nat.le_refl _) (.cells #[.int .i64 0, .string ⟨#[]⟩, .int .i64 0, .slice none 0 0] 27)) hg
  have hB := Blk.new w 27 #[.int .i64 0, .string ⟨#[]⟩, .int .i64 0, .slice none 0 0]
  have hL := rline_any _ h1 hn
  have hbl := lnl_len hl
  have hnl := h.2.2.1
  have hbm : (bs body).size ≤ maxLen := by rw [bs_size]; simp at hbl; unfold maxLen; omega
  have Hbm := Lib.hid (show body.length ≤ maxLen by rw [bs_size] at hbm; exact hbm)
  have hb6 : body.length + 1 ≤ 1048576 := by simp at hbl; omega
  obtain ⟨D, hD⟩ : ∃ D : Int, 33 - (d : Int) = D := ⟨_, rfl⟩
  have hD1 : D ≤ 33 := by omega
  have HD := Lib.hid hD
  rw [hD]
  have HG := Lib.hid (fun w1 (hg1 : (w.alloc (.cells #[.int .i64 0, .string ⟨#[]⟩, .int .i64 0, .slice none 0 0] 27)).grownBy w1 (some g)) => (show w.grownBy w1 (some g) from grown_trans (grown_alloc (grown_of (Below.refl _ _) _) _) hg1))
  rw [hl] at hL
  have htb := tail_bs c0 body
  have HTB := Lib.hid htb
  clear hD hnl hbl hl htb
  have r43 : ((((bs (c0 :: body))[0]'(by simp)).toNat : Int) == 43) = false := q43
  have r45 : ((((bs (c0 :: body))[0]'(by simp)).toNat : Int) == 45) = false := q45
  have r95 : ((((bs (c0 :: body))[0]'(by simp)).toNat : Int) == 95) = false := q95
  have r58 : ((((bs (c0 :: body))[0]'(by simp)).toNat : Int) == 58) = false := q58
  have r36 : ((((bs (c0 :: body))[0]'(by simp)).toNat : Int) == 36) = true := q36
  have hfx := Num.prs_bd hp
  have Hfx := Lib.hid hfx
  go_enter Tryd.func23, Tryd.ntmps23
  go_wp2_with fail
  refine hL.mono ?_
  rintro e w1 ⟨⟨rfl, hr1⟩, hg1⟩
  have hB1 := hB.grown hg1 (fun e => by injection e with e; omega)
  go_wp2_with fail
  rw [HTB.out]
  refine (parse_hit (bs body) x w1 hbm (by simpa using hp)).mono ?_
  rintro e w2 ⟨rfl, hb2⟩
  have hr2 := hr1.below hb2 hr1.lt
  have hB2 := hB1.below hb2 hB1.lt
  have hg2 := grown_trans (HG.out _ hg1) (grown_of hb2 _)
  have k0 := hB2.cell 0
  have z0 := hB2.frozen 0
  have k1 := hB2.cell 1
  have z1 := hB2.frozen 1
  have k2 := hB2.cell 2
  have z2 := hB2.frozen 2
  have k3 := hB2.cell 3
  have z3 := hB2.frozen 3
  clear hp
  go_wp2_with fail
  refine bodyPost_ret (ret_cell2 rfl _ _ w.heap.size _ _ _ _ _ rfl (hB2.put4 _ _ _ _)) rfl ?_
  exact ⟨⟨⟨none, 0, rfl, RV.flat_ (by unfold fits; omega) (by unfold fits; omega) (by simp)⟩, put4_rst hr2 hg _ _ _ _⟩, put4_grown hg2 (Nat.le_refl _) _ _ _ _⟩

set_option maxRecDepth 100000 in
set_option maxHeartbeats 8000000 in
theorem reply_narr (d : Nat) (hd : d ≤ 32) {g n c : Nat} {A : Option Addr} {l : List UInt8} {p : Nat} (w : World) (h : Rst w g n c A l p) (hn : n ≤ 1048576) {c0 : UInt8} {body t : List UInt8} (hl : Rsp.lnl (l.drop p) = some (c0 :: body, t)) (q43 : ((c0.toNat : Int) == 43) = false) (q45 : ((c0.toNat : Int) == 45) = false) (q95 : ((c0.toNat : Int) == 95) = false) (q58 : ((c0.toNat : Int) == 58) = false) (q36 : ((c0.toNat : Int) == 36) = false) (q42 : ((c0.toNat : Int) == 42) = true) (x : Int) (hp : Num.prs body = some x) (hx : (x == -1) = true) :
    Calls Tryd.prog 23 #[.pointer (some ⟨g, 0, none⟩), .int .i64 (33 - (d : Int))] w fun e w' => RRet w w' e g n c A l (some (.mk 6 [] 0 [], t)) ∧ w.grownBy w' (some g) := by
  have hg := h.lt
  have h1 := h.below ((Below.refl w.heap.size w).alloc (Nat.le_refl _) (.cells #[.int .i64 0, .string ⟨#[]⟩, .int .i64 0, .slice none 0 0] 27)) hg
  have hB := Blk.new w 27 #[.int .i64 0, .string ⟨#[]⟩, .int .i64 0, .slice none 0 0]
  have hL := rline_any _ h1 hn
  have hbl := lnl_len hl
  have hnl := h.2.2.1
  have hbm : (bs body).size ≤ maxLen := by rw [bs_size]; simp at hbl; unfold maxLen; omega
  have Hbm := Lib.hid (show body.length ≤ maxLen by rw [bs_size] at hbm; exact hbm)
  have hb6 : body.length + 1 ≤ 1048576 := by simp at hbl; omega
  obtain ⟨D, hD⟩ : ∃ D : Int, 33 - (d : Int) = D := ⟨_, rfl⟩
  have hD1 : D ≤ 33 := by omega
  have HD := Lib.hid hD
  rw [hD]
  have HG := Lib.hid (fun w1 (hg1 : (w.alloc (.cells #[.int .i64 0, .string ⟨#[]⟩, .int .i64 0, .slice none 0 0] 27)).grownBy w1 (some g)) => (show w.grownBy w1 (some g) from grown_trans (grown_alloc (grown_of (Below.refl _ _) _) _) hg1))
  rw [hl] at hL
  have htb := tail_bs c0 body
  have HTB := Lib.hid htb
  clear hD hnl hbl hl htb
  have r43 : ((((bs (c0 :: body))[0]'(by simp)).toNat : Int) == 43) = false := q43
  have r45 : ((((bs (c0 :: body))[0]'(by simp)).toNat : Int) == 45) = false := q45
  have r95 : ((((bs (c0 :: body))[0]'(by simp)).toNat : Int) == 95) = false := q95
  have r58 : ((((bs (c0 :: body))[0]'(by simp)).toNat : Int) == 58) = false := q58
  have r36 : ((((bs (c0 :: body))[0]'(by simp)).toNat : Int) == 36) = false := q36
  have r42 : ((((bs (c0 :: body))[0]'(by simp)).toNat : Int) == 42) = true := q42
  have hfx := Num.prs_bd hp
  have Hfx := Lib.hid hfx
  go_enter Tryd.func23, Tryd.ntmps23
  go_wp2_with fail
  refine hL.mono ?_
  rintro e w1 ⟨⟨rfl, hr1⟩, hg1⟩
  have hB1 := hB.grown hg1 (fun e => by injection e with e; omega)
  go_wp2_with fail
  rw [HTB.out]
  refine (parse_hit (bs body) x w1 hbm (by simpa using hp)).mono ?_
  rintro e w2 ⟨rfl, hb2⟩
  have hr2 := hr1.below hb2 hr1.lt
  have hB2 := hB1.below hb2 hB1.lt
  have hg2 := grown_trans (HG.out _ hg1) (grown_of hb2 _)
  have k0 := hB2.cell 0
  have z0 := hB2.frozen 0
  have k1 := hB2.cell 1
  have z1 := hB2.frozen 1
  have k2 := hB2.cell 2
  have z2 := hB2.frozen 2
  have k3 := hB2.cell 3
  have z3 := hB2.frozen 3
  clear hp
  go_wp2_with fail
  refine bodyPost_ret (ret_cell2 rfl _ _ w.heap.size _ _ _ _ _ rfl (hB2.put4 _ _ _ _)) rfl ?_
  exact ⟨⟨⟨none, 0, rfl, RV.flat_ (by unfold fits; omega) (by unfold fits; omega) (by simp)⟩, put4_rst hr2 hg _ _ _ _⟩, put4_grown hg2 (Nat.le_refl _) _ _ _ _⟩

set_option maxRecDepth 100000 in
set_option maxHeartbeats 8000000 in
theorem reply_other (d : Nat) (hd : d ≤ 32) {g n c : Nat} {A : Option Addr} {l : List UInt8} {p : Nat} (w : World) (h : Rst w g n c A l p) (hn : n ≤ 1048576) {c0 : UInt8} {body t : List UInt8} (hl : Rsp.lnl (l.drop p) = some (c0 :: body, t)) (q43 : ((c0.toNat : Int) == 43) = false) (q45 : ((c0.toNat : Int) == 45) = false) (q95 : ((c0.toNat : Int) == 95) = false) (q58 : ((c0.toNat : Int) == 58) = false) (q36 : ((c0.toNat : Int) == 36) = false) (q42 : ((c0.toNat : Int) == 42) = false) (q37 : ((c0.toNat : Int) == 37) = false) (q126 : ((c0.toNat : Int) == 126) = false) (x : Int) (hp : Num.prs body = some x) :
    Calls Tryd.prog 23 #[.pointer (some ⟨g, 0, none⟩), .int .i64 (33 - (d : Int))] w fun e w' => RRet w w' e g n c A l (none) ∧ w.grownBy w' (some g) := by
  have hg := h.lt
  have h1 := h.below ((Below.refl w.heap.size w).alloc (Nat.le_refl _) (.cells #[.int .i64 0, .string ⟨#[]⟩, .int .i64 0, .slice none 0 0] 27)) hg
  have hB := Blk.new w 27 #[.int .i64 0, .string ⟨#[]⟩, .int .i64 0, .slice none 0 0]
  have hL := rline_any _ h1 hn
  have hbl := lnl_len hl
  have hnl := h.2.2.1
  have hbm : (bs body).size ≤ maxLen := by rw [bs_size]; simp at hbl; unfold maxLen; omega
  have Hbm := Lib.hid (show body.length ≤ maxLen by rw [bs_size] at hbm; exact hbm)
  have hb6 : body.length + 1 ≤ 1048576 := by simp at hbl; omega
  obtain ⟨D, hD⟩ : ∃ D : Int, 33 - (d : Int) = D := ⟨_, rfl⟩
  have hD1 : D ≤ 33 := by omega
  have HD := Lib.hid hD
  rw [hD]
  have HG := Lib.hid (fun w1 (hg1 : (w.alloc (.cells #[.int .i64 0, .string ⟨#[]⟩, .int .i64 0, .slice none 0 0] 27)).grownBy w1 (some g)) => (show w.grownBy w1 (some g) from grown_trans (grown_alloc (grown_of (Below.refl _ _) _) _) hg1))
  rw [hl] at hL
  have htb := tail_bs c0 body
  have HTB := Lib.hid htb
  clear hD hnl hbl hl htb
  have r43 : ((((bs (c0 :: body))[0]'(by simp)).toNat : Int) == 43) = false := q43
  have r45 : ((((bs (c0 :: body))[0]'(by simp)).toNat : Int) == 45) = false := q45
  have r95 : ((((bs (c0 :: body))[0]'(by simp)).toNat : Int) == 95) = false := q95
  have r58 : ((((bs (c0 :: body))[0]'(by simp)).toNat : Int) == 58) = false := q58
  have r36 : ((((bs (c0 :: body))[0]'(by simp)).toNat : Int) == 36) = false := q36
  have r42 : ((((bs (c0 :: body))[0]'(by simp)).toNat : Int) == 42) = false := q42
  have r37 : ((((bs (c0 :: body))[0]'(by simp)).toNat : Int) == 37) = false := q37
  have r126 : ((((bs (c0 :: body))[0]'(by simp)).toNat : Int) == 126) = false := q126
  have hfx := Num.prs_bd hp
  have Hfx := Lib.hid hfx
  go_enter Tryd.func23, Tryd.ntmps23
  go_wp2_with fail
  refine hL.mono ?_
  rintro e w1 ⟨⟨rfl, hr1⟩, hg1⟩
  have hB1 := hB.grown hg1 (fun e => by injection e with e; omega)
  go_wp2_with fail
  rw [HTB.out]
  refine (parse_hit (bs body) x w1 hbm (by simpa using hp)).mono ?_
  rintro e w2 ⟨rfl, hb2⟩
  have hr2 := hr1.below hb2 hr1.lt
  have hB2 := hB1.below hb2 hB1.lt
  have hg2 := grown_trans (HG.out _ hg1) (grown_of hb2 _)
  have k0 := hB2.cell 0
  have z0 := hB2.frozen 0
  have k1 := hB2.cell 1
  have z1 := hB2.frozen 1
  have k2 := hB2.cell 2
  have z2 := hB2.frozen 2
  have k3 := hB2.cell 3
  have z3 := hB2.frozen 3
  clear hp
  go_wp2_with fail
  refine bodyPost_ret (ret_cell2 rfl _ _ w.heap.size _ _ _ _ _ rfl (hB2.put4 _ _ _ _)) rfl ?_
  exact ⟨⟨_, _, _, _, _, _, rfl⟩, put4_grown hg2 (Nat.le_refl _) _ _ _ _⟩
end Go.Proofs.YtjdnpgdedbegfaaDoor
