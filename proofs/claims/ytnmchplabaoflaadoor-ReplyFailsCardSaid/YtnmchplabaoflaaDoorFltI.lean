/- The walk of chain (tallboylaw1): a code under so many commands. -/
import Derived.Test.YtnmchplabaoflaaDoorFltH
import Derived.Test.YtnmchplabaoflaaDoorFltD
import Derived.Test.YtnmchplabaoflaaDoorKeep
namespace Go.Proofs.YtnmchplabaoflaaDoor
open Go.RowKit Go.Shelf
set_option linter.unusedVariables false

/-- A []string that came in. -/
def Arg1 (w : World) (v : Value) (ls : List (List UInt8)) : Prop :=
  ∃ A c, v = .slice A ls.length c ∧ Reads w w.heap.size 1 A ls.length (ls.map sv) ∧ ls.length ≤ maxLen ∧ ∀ s ∈ ls, s.length ≤ maxLen
theorem Arg1.below {w w' : World} {v : Value} {ls : List (List UInt8)} (h : Arg1 w v ls) (hb : Below w.heap.size w w') : Arg1 w' v ls := by
  obtain ⟨A, c, h1, h2, h3⟩ := h
  exact ⟨A, c, h1, (h2.keep fun q hq => hb.cell hq).more hb.size, h3⟩

def first5 : List UInt8 := [102, 105, 114, 115, 116]
/-- The names of a chain under k commands, the outermost ahead. -/
def nms (m : Nat) (ls : List (List UInt8)) (k : Nat) : List (List UInt8) := ((ls.take k).map (List.take m)).reverse
theorem nms_next (m : Nat) (ls : List (List UInt8)) (k : Nat) (h : k < ls.length) : nms m ls (k + 1) = ls[k].take m :: nms m ls k := by
  unfold nms
  rw [List.take_succ_eq_append_getElem h, List.map_append, List.reverse_append]
  rfl
theorem nms_len (m : Nat) (ls : List (List UInt8)) (k : Nat) (h : k ≤ ls.length) : (nms m ls k).length = k := by
  unfold nms; rw [List.length_reverse, List.length_map, List.length_take]; omega

theorem cut_sv (l : List UInt8) (n : Nat) (w : World) (hl : l.length ≤ maxLen) (hn : n ≤ 4294967296) :
    Calls Tryd.prog 10 #[sv l, .int .i64 n] w fun e w' => e = .returned (sv (l.take n)) ∧ w = w' := by
  have := cut_any (bs l) n w (by rw [bs_size]; exact hl) hn
  rwa [bs_data] at this

set_option maxRecDepth 100000 in
set_option maxHeartbeats 4000000 in
theorem chain_any (c : Int) (v : Value) (ls : List (List UInt8)) (w : World) (hv : Arg1 w v ls) (hg : Et w) (hc : c ≠ 0) :
    Calls Tryd.prog 15 #[.int .i64 c, v] w fun e w' => ∃ l, e = .returned (ev (cd c) l) ∧ Chn w' (cd c) l ∧ l.map (·.2) = nms 20 ls (min ls.length 10) ++ [first5] ∧ Below w.heap.size w w' := by
  obtain ⟨A, cp, rfl, hR, hlm, hlen⟩ := hv
  obtain ⟨n, hn⟩ : ∃ n, ls.length = n := ⟨_, rfl⟩
  have HN := Lib.hid hn
  have HNEW := Lib.hid (new_any first5 c w hc)
  have HWR := Lib.hid (fun s l w1 h1 h2 => wrap_any (code_chain c) hc ⟨_, _, rfl⟩ s l w1 h1 h2)
  have HG := Lib.hid hg
  have HR := Lib.hid hR
  have HL := Lib.hid hlen
  rw [hn] at hlm ⊢
  unfold maxLen at hlm
  clear hn hR hg hlen
  go_enter Tryd.func15, Tryd.ntmps15
  go_wp2_with fail
  refine HNEW.out.mono ?_
  rintro e w0 ⟨g0, rfl, hch0, hb0⟩
  have HC0 := Lib.hid hch0
  have HB0 := Lib.hid hb0
  clear hch0 hb0
  obtain ⟨u0, v0, hu0⟩ := ev_iface ⟨_, _, rfl⟩ [(g0, first5)] (E0 := cd c)
  have HU0 := Lib.hid hu0
  rw [hu0]
  clear hu0
  go_wp2_with fail
  go_loopw [5, 6] (fun x y wr => ∃ l k, x = ev (cd c) l ∧ y = .int .i64 (k : Nat) ∧ k ≤ n ∧ k ≤ 10 ∧ Chn wr (cd c) l ∧ l.map (·.2) = nms 20 ls k ++ [first5] ∧ Below w.heap.size w wr) (fun x y _ => n - (intOf y).toNat)
  case atStart => exact ⟨[(g0, first5)], 0, HU0.out.symm, rfl, by omega, by omega, HC0.out, rfl, HB0.out⟩
  case round =>
    clear HNEW HC0 HB0 HU0
    obtain ⟨l, k, rfl, rfl, hkn, hk10, hch, hnm, hb⟩ := hrel
    have HCH := Lib.hid hch
    have HNM := Lib.hid hnm
    have HB := Lib.hid hb
    clear hch hnm hb
    obtain ⟨u1, v1, hu1⟩ := ev_iface ⟨_, _, rfl⟩ l (E0 := cd c)
    have HU1 := Lib.hid hu1
    rw [hu1]
    clear hu1
    by_cases hlt : k < n ∧ k < 10
    · obtain ⟨h1, h2⟩ := hlt
      have hkl : k < ls.length := by rw [HN.out]; exact h1
      have i1 : (k : Int) < (n : Int) := by omega
      have i2 : (k : Int) < 10 := by omega
      obtain ⟨ad, u, rfl, hblk, hget, hcell⟩ := HR.out.at_ (k := k) hkl
      have hu : u = sv ls[k] := by
        rw [List.getElem?_map, List.getElem?_eq_getElem hkl] at hget
        exact (Option.some.inj hget).symm
      subst hu
      have hcell2 := (HB.out.cell (p := ad.add k) (by rw [block_of_add]; exact hblk)).trans hcell
      have HCUT := Lib.hid (fun w1 => cut_sv ls[k] 20 w1 (HL.out _ (List.getElem_mem hkl)) (by decide))
      have HX := Lib.hid (nms_next 20 ls k hkl)
      have HW1 := Lib.hid (HWR.out (ls[k].take 20) l wr HCH.out (HG.out.below_ HB.out))
      rw [HU1.out] at HW1
      obtain ⟨s0, hs0⟩ : ∃ s0, ls[k] = s0 := ⟨_, rfl⟩
      rw [hs0] at HCUT HX HW1 hcell2
      clear hget hcell hs0
      go_wp2_with (first
        | (go_at_call 10; refine (HCUT.out _).mono ?_; rintro e w1 ⟨rfl, rfl⟩)
        | (go_at_call 16; refine HW1.out.mono ?_; rintro e w2 ⟨g, rfl, hch2, hb2⟩; have HC2 := Lib.hid hch2; have HB2 := Lib.hid hb2; clear hch2 hb2))
      go_roundw
      case rel => exact ⟨(g, s0.take 20) :: l, k + 1, rfl, by go_num, by omega, by omega, HC2.out, by rw [List.map_cons, HNM.out, HX.out]; rfl, below_trans HB.out HB2.out⟩
      case measure => simp [intOf]; omega
    · have hmin : min n 10 = k := by omega
      by_cases h1 : (k : Int) < (n : Int)
      · have h2 : ¬ (k : Int) < 10 := by omega
        go_wp2
        go_ret
        exact ⟨l, by rw [HU1.out]; rfl, HCH.out, by first | exact HNM.out | (rw [hmin]; exact HNM.out), HB.out⟩
      · go_wp2
        go_ret
        exact ⟨l, by rw [HU1.out]; rfl, HCH.out, by first | exact HNM.out | (rw [hmin]; exact HNM.out), HB.out⟩

set_option maxRecDepth 100000 in
set_option maxHeartbeats 4000000 in
theorem chain_ok (v : Value) (ls : List (List UInt8)) (w : World) (hv : Arg1 w v ls) :
    Calls Tryd.prog 15 #[.int .i64 0, v] w fun e w' => e = .returned .nilIface ∧ Below w.heap.size w w' := by
  obtain ⟨A, cp, rfl, hR, hlm, hlen⟩ := hv
  obtain ⟨n, hn⟩ : ∃ n, ls.length = n := ⟨_, rfl⟩
  have HN := Lib.hid hn
  have HWR := Lib.hid (fun s w1 => wrap_nil s w1)
  have HR := Lib.hid hR
  have HL := Lib.hid hlen
  rw [hn] at hlm ⊢
  unfold maxLen at hlm
  clear hn hR hlen
  go_enter Tryd.func15, Tryd.ntmps15
  go_wp2_with fail
  refine (new_ok _ w).mono ?_
  rintro e w0 ⟨rfl, rfl⟩
  go_wp2_with fail
  go_loopw [5, 6] (fun x y wr => ∃ k, x = .nilIface ∧ y = .int .i64 (k : Nat) ∧ k ≤ n ∧ k ≤ 10 ∧ Below w.heap.size w wr) (fun x y _ => n - (intOf y).toNat)
  case atStart => exact ⟨0, rfl, rfl, by omega, by omega, Below.refl _ _⟩
  case round =>
    obtain ⟨k, rfl, rfl, hkn, hk10, hb⟩ := hrel
    have HB := Lib.hid hb
    clear hb
    by_cases hlt : k < n ∧ k < 10
    · obtain ⟨h1, h2⟩ := hlt
      have hkl : k < ls.length := by rw [HN.out]; exact h1
      have i1 : (k : Int) < (n : Int) := by omega
      have i2 : (k : Int) < 10 := by omega
      obtain ⟨ad, u, rfl, hblk, hget, hcell⟩ := HR.out.at_ (k := k) hkl
      have hu : u = sv ls[k] := by
        rw [List.getElem?_map, List.getElem?_eq_getElem hkl] at hget
        exact (Option.some.inj hget).symm
      subst hu
      have hcell2 := (HB.out.cell (p := ad.add k) (by rw [block_of_add]; exact hblk)).trans hcell
      have HCUT := Lib.hid (fun w1 => cut_sv ls[k] 20 w1 (HL.out _ (List.getElem_mem hkl)) (by decide))
      obtain ⟨s0, hs0⟩ : ∃ s0, ls[k] = s0 := ⟨_, rfl⟩
      rw [hs0] at HCUT hcell2
      clear hget hcell hs0
      go_wp2_with (first
        | (go_at_call 10; refine (HCUT.out _).mono ?_; rintro e w1 ⟨rfl, rfl⟩)
        | (go_at_call 16; refine (HWR.out _ _).mono ?_; rintro e w2 ⟨rfl, hb2⟩; have HB2 := Lib.hid hb2; clear hb2))
      go_roundw
      case rel => exact ⟨k + 1, by first | rfl | trivial, by go_num, by omega, by omega, below_trans HB.out HB2.out⟩
      case measure => simp [intOf]; omega
    · by_cases h1 : (k : Int) < (n : Int)
      · have h2 : ¬ (k : Int) < 10 := by omega
        go_wp2
        go_ret
        exact ⟨rfl, HB.out⟩
      · go_wp2
        go_ret
        exact ⟨rfl, HB.out⟩
end Go.Proofs.YtnmchplabaoflaaDoor
