/- The walks of slices.Grow (by the shelf), slices.Concat over rows of replies. -/
import Derived.Test.YtjefpnhffdeekaaRplJ
import Derived.Shelf.Spec.SlicesGrow
import Derived.Ground.Names7Prog
namespace Go.Proofs
open Go.Shelf
shelf_lay_g Lays8.n4 Nm8 4 at Try 33 as Try.growR
end Go.Proofs
namespace Go.Proofs.Ytjefpnhffdeekaa
open Go.RowKit
set_option linter.unusedVariables false

theorem grow_nil (n : Nat) (w : World) (hn : n ≤ 1000) :
    Calls Try.prog 33 #[.slice none 0 0, .int .i64 n] w fun e w' => ∃ v, e = .returned v ∧ Own w' w.heap.size 25 4 v 0 [] ∧ Below w.heap.size w w' := by
  obtain ⟨it, hi', hy0, hy1, hy2⟩ := info_parts repinfo
  rcases Nat.eq_zero_or_pos n with rfl | h0
  · refine (Any8.slices_Grow_room Try.growR none 0 0 0 w (Nat.le_refl _) (by decide) (by decide) (Nat.le_refl _)).mono ?_
    rintro e w' ⟨rfl, rfl⟩
    exact ⟨_, rfl, Own.nil _ _ _ _, Below.refl _ _⟩
  · refine (Any8.slices_Grow_grow Try.growR it _ hi' hy0 (by rw [hy1]; decide) none 0 0 n [] w (Nat.le_refl _) (by omega) (by rw [hy2]; omega) (by omega) (by simp) (fun _ => rfl) (fun a ha => by cases ha)).mono ?_
    rintro e w' ⟨rfl, rfl⟩
    have hge := grownCap_ge w (0 + n) 0 25
    have hcm : grownCap w (0 + n) 0 25 ≤ maxLen := grownCap_le_maxLen w (0 + n) 0 25 (by unfold maxLen; omega)
    refine ⟨_, rfl, ⟨by simp, .inr ⟨w.heap.size, _, _, (0, 0), rfl, Nat.le_refl _, heap_alloc_new w.drew _, NF.zero _, Nat.zero_le _, hcm, ?_, by simp⟩⟩, (Below.refl _ _).drew.alloc (Nat.le_refl _) _⟩
    have hz : ∀ k, (Builtin.zeroCells (Value.agg #[.int .i64 0, .string ⟨#[]⟩, .int .i64 0, .slice none 0 0]).cells k).size = k * 4 := fun k => by rw [size_zeroCells]; rfl
    simp only [Array.size_append, hz, List.size_toArray, List.length_nil]
    show _ = grownCap w (0 + n) 0 25 * 4
    have : ∀ G : Nat, 0 + n ≤ G → 0 + (0 + n - 0) * 4 + (G - (0 + n)) * 4 = G * 4 := fun G h => by omega
    exact this _ hge

/-- A row of one's own gets others behind its own. -/
theorem OR.append {wr w' : World} {B : Nat} {x x' : Value} {acc p : List Rep} {xs0 xs : List Value} (hB : B ≤ wr.heap.size) (h1 : Own wr B 25 4 x acc.length xs0)
    (h2 : RLs wr (fun b => B ≤ b ∧ b < wr.heap.size ∧ some b ≠ x.ownBlock) acc xs0) (hp : RLs wr (fun b => B ≤ b ∧ b < wr.heap.size ∧ some b ≠ x.ownBlock) p xs)
    (hO : Own w' B 25 4 x' (acc.length + p.length) (xs0 ++ xs)) (hg : wr.grownBy w' x.ownBlock) (hat : x'.ownBlock = x.ownBlock ∨ x'.ownBlock = some wr.heap.size) : OR w' B x' (acc ++ p) := by
  have hk : ∀ q : Addr, (B ≤ q.block ∧ q.block < wr.heap.size ∧ some q.block ≠ x.ownBlock) → w'.cell? q = wr.cell? q := fun q hq => World.cell?_of_block (hg.block _ hq.2.1 hq.2.2)
  have hm : ∀ b, (B ≤ b ∧ b < wr.heap.size ∧ some b ≠ x.ownBlock) → (B ≤ b ∧ b < w'.heap.size ∧ some b ≠ x'.ownBlock) := fun b hb' => by
    refine ⟨hb'.1, Nat.lt_of_lt_of_le hb'.2.1 hg.size, fun e => ?_⟩
    rcases hat with h | h
    · exact hb'.2.2 (e.trans h)
    · rw [h] at e; injection e with e; have := hb'.2.1; omega
  exact ⟨xs0 ++ xs, by rw [List.length_append]; exact hO, RLs.append ((h2.keep hk).mono hm) ((hp.keep hk).mono hm)⟩
theorem PR.at_ {w : World} {B n c k : Nat} {A : Option Addr} {ps : List (List Rep)} (h : PR w B (.slice A n c) ps) (hn : ps.length = n) (hk : k < n) :
    ∃ a p E f xs, A = some a ∧ a.spot = none ∧ a.off = 0 ∧ ps[k]? = some p ∧ w.cell? (a.add k) = some (.slice E p.length f) ∧ a.block < w.heap.size ∧ p.length ≤ f ∧ f ≤ maxLen ∧ RD w (fun b => B ≤ b ∧ b < w.heap.size ∧ some b ≠ (Value.slice A n c).ownBlock) E p.length xs ∧ RLs w (fun b => B ≤ b ∧ b < w.heap.size ∧ some b ≠ (Value.slice A n c).ownBlock) p xs := by
  subst hn
  obtain ⟨vs, h1, h2⟩ := h
  rcases h1.form with ⟨_, h0⟩ | ⟨g, cap, hv, _, hlt, _⟩
  · omega
  · have hA : A = some ⟨g, 0, none⟩ ∧ c = cap := by injection hv with e1 _ e3; exact ⟨e1, e3⟩
    obtain ⟨rfl, rfl⟩ := hA
    have hl := PR.len h1
    have hp : ps[k]? = some ps[k] := List.getElem?_eq_getElem hk
    have hu : vs[k]? = some vs[k] := List.getElem?_eq_getElem (by omega)
    obtain ⟨E, f, xs, e1, q1, q2, q3, q4⟩ := h2 k _ _ hu hp
    have hc := h1.cellAt k (by omega)
    rw [hu, e1] at hc
    exact ⟨⟨g, 0, none⟩, ps[k], E, f, xs, rfl, rfl, rfl, hp, by rw [spot_add rfl]; simpa using hc, hlt, q1, q2, q3, q4⟩
theorem RD.reads {w : World} {S : Nat → Prop} {A : Option Addr} {n : Nat} {xs : List Value} (h : RD w S A n xs) (hS : ∀ b, S b → b < w.heap.size) : Reads w w.heap.size 4 A n xs :=
  ⟨h.1, fun hn => by obtain ⟨ad, h1, _, h2, h3⟩ := h.2 hn; exact ⟨ad, h1, hS _ h2, h3⟩⟩
theorem flat_next {ps : List (List Rep)} {k : Nat} {p : List Rep} (h : ps[k]? = some p) : (ps.take (k + 1)).flatten = (ps.take k).flatten ++ p := by
  obtain ⟨h1, h2⟩ := List.getElem?_eq_some_iff.1 h
  rw [List.take_succ_eq_append_getElem h1, h2, List.flatten_append]; simp

set_option maxRecDepth 100000 in
set_option maxHeartbeats 8000000 in
theorem concat_any {B : Nat} {v : Value} (ps : List (List Rep)) (w : World) (hpr : PR w B v ps) (hps : ps.length ≤ 1000) (hfl : ps.flatten.length ≤ 1000) (hB : B ≤ w.heap.size) :
    Calls Try.prog 19 #[v] w fun e w' => ∃ v', e = .returned v' ∧ OR w' B v' ps.flatten ∧ Below w.heap.size w w' ∧ (∀ j, v'.ownBlock = some j → w.heap.size ≤ j) := by
  obtain ⟨it, hi', hy0, hy1, hy2⟩ := info_parts repinfo
  obtain ⟨A, c, rfl⟩ := hpr.form
  obtain ⟨n, hn⟩ : ∃ n, ps.length = n := ⟨_, rfl⟩
  have HN := Lib.hid hn
  rw [hn] at hpr hps ⊢
  have HP := Lib.hid hpr
  clear hpr hn
  have hpre : ∀ k, (ps.take k).flatten.length ≤ 1000 := fun k => by
    have : ps.flatten.length = (ps.take k).flatten.length + (ps.drop k).flatten.length := by rw [← List.length_append, ← List.flatten_append, List.take_append_drop]
    omega
  have HPRE := Lib.hid hpre
  clear hpre
  go_enter Try.func19, Try.ntmps19
  go_wp2_with fail
  go_loopw [3, 11] (fun x y wr => ∃ k, x = .int .i64 ((ps.take k).flatten.length : Nat) ∧ y = .int .i64 (k : Nat) ∧ k ≤ n ∧ wr = w) (fun x y _ => n - (nOf y).toNat)
  case atStart => exact ⟨0, rfl, rfl, Nat.zero_le _, rfl⟩
  case round =>
    obtain ⟨k, rfl, rfl, hk, rfl⟩ := hrel
    have hs1 := HPRE.out k
    obtain ⟨L0, hL0⟩ : ∃ L, (ps.take k).flatten.length = L := ⟨_, rfl⟩
    have HL0 := Lib.hid hL0
    rw [hL0] at hs1 ⊢
    clear hL0
    by_cases hlt : k < n
    · obtain ⟨a, p, E, f, xs, rfl, hsp, hof, hp, hcell, hblk, q1, q2, q3, q4⟩ := HP.out.at_ HN.out hlt
      have i1 : (k : Int) < (n : Int) := by omega
      have HF := Lib.hid (flat_next hp)
      have hs2 := HPRE.out (k + 1)
      have hs3 : (ps.take (k + 1)).flatten.length = L0 + p.length := by rw [HF.out, List.length_append, HL0.out]
      have hs4 : L0 + p.length ≤ 1000 := by omega
      have HS3 := Lib.hid hs3
      have i2 : ¬ ((L0 : Int) + (p.length : Int)) < 0 := by omega
      clear hp q1 q2 q3 q4 hs2 hs3 hsp hof
      go_wp2_with fail
      go_roundw
      case rel => exact ⟨k + 1, by rw [HS3.out]; first | go_num | (congr 1; omega), by go_num, by omega, trivial⟩
      case measure => simp [nOf]; omega
    · have i1 : ¬ (k : Int) < (n : Int) := by omega
      have hkn : ps.take k = ps := List.take_of_length_le (by rw [HN.out]; omega)
      have HG := Lib.hid (grow_nil L0 wr hs1)
      have HK := Lib.hid hkn
      clear hkn
      go_wp2_with fail
      refine HG.out.mono ?_
      rintro e w1 ⟨v1, rfl, hown, hb1⟩
      have HB1 := Lib.hid hb1
      have HOW := Lib.hid hown
      clear hown hb1
      obtain ⟨A1, c1, rfl⟩ := HOW.out.sliceForm
      go_wp2_with fail
      go_loopw [6, 27] (fun x y wl => ∃ k, y = .int .i64 (k : Nat) ∧ k ≤ n ∧ OR wl B x ((ps.take k).flatten) ∧ (∀ j, x.ownBlock = some j → wr.heap.size ≤ j) ∧ Below wr.heap.size wr wl) (fun x y _ => n - (nOf y).toNat)
      case atStart => exact ⟨0, rfl, Nat.zero_le _, ⟨[], HOW.out.mono hB, RLs.nil⟩, fun j hj => (HOW.out.lt j hj).1, HB1.out⟩
      case round =>
        obtain ⟨k, rfl, hk, hor, hlo, hbel⟩ := hrel
        obtain ⟨A3, c3, rfl⟩ := hor.form
        obtain ⟨xs0, ho1, ho2⟩ := id hor
        have hs1 := HPRE.out k
        obtain ⟨L1, hL1⟩ : ∃ L, (ps.take k).flatten.length = L := ⟨_, rfl⟩
        have HL1 := Lib.hid hL1
        rw [hL1] at hs1 ho1 ho2 hlo hor ⊢
        have HOR := Lib.hid hor
        have HO1 := Lib.hid ho1
        have HO2 := Lib.hid ho2
        have HLO := Lib.hid hlo
        have HBL := Lib.hid hbel
        clear hL1 hor ho1 ho2 hlo hbel
        by_cases hlt2 : k < n
        · obtain ⟨a, p, E, f, xs, rfl, hsp, hof, hp, hcell, hblk, q1, q2, q3, q4⟩ := HP.out.at_ HN.out hlt2
          have i3 : (k : Int) < (n : Int) := by omega
          have HF := Lib.hid (flat_next hp)
          have hs2 := HPRE.out (k + 1)
          have hs3 : (ps.take (k + 1)).flatten.length = L1 + p.length := by rw [HF.out, List.length_append, HL1.out]
          have hs4 : L1 + p.length ≤ 1000 := by omega
          have hcell2 := (HBL.out.cell (p := a.add k) (by rw [block_of_add]; exact hblk)).trans hcell
          have q3' := RD.reads (RD.keep (w' := wr) q3 (fun q hq => HBL.out.cell hq.2.1)) (fun b hb => Nat.lt_of_lt_of_le hb.2.1 HBL.out.size)
          have q4' : RLs wr (fun b => B ≤ b ∧ b < wr.heap.size ∧ some b ≠ (Value.slice A3 L1 c3).ownBlock) p xs := RLs.mono (fun b hb => ⟨hb.1, Nat.lt_of_lt_of_le hb.2.1 HBL.out.size, fun e => by have := HLO.out b e.symm; have := hb.2.1; omega⟩) (RLs.keep (fun q hq => HBL.out.cell hq.2.1) q4)
          have HSRC := Lib.hid (Src.slice (P := Try.prog) (u := 23) (e' := 25) (c := f) Try.underlying23 q3' q4'.one1 (by decide))
          have HQ4 := Lib.hid q4'
          have hBw : B ≤ wr.heap.size := Nat.le_trans hB HBL.out.size
          clear hp q1 q2 q3 q4 hs2 hs3 hsp hof hcell hblk q3' q4'
          go_wp2_with (at_builtin
                       refine wpList_append_Own _ rfl (.tmp 31) (.tmp 32) _ _ rfl B 25 it _ 4 56 Try.underlying23 hi' hy0 hy1 hy2 rfl (.slice A3 L1 c3) L1 xs0 rfl HO1.out _ p.length xs rfl HSRC.out (by unfold maxLen; omega) (by omega) hBw ?_
                       intro v2 w2 hO hg hat)
          have hor2 : OR w2 B v2 ((ps.take k).flatten ++ p) := OR.append hBw (by rw [HL1.out]; exact HO1.out) HO2.out HQ4.out (by rw [HL1.out]; exact hO) hg hat
          rw [← HF.out] at hor2
          go_roundw
          case rel =>
            refine ⟨k + 1, by go_num, by omega, hor2, fun j hj => ?_, HBL.out.grown hg HBL.out.size (fun j hj => HLO.out j hj)⟩
            rcases hat with h | h
            · exact HLO.out j (h.symm.trans hj)
            · rw [h] at hj; injection hj with hj; have := HBL.out.size; omega
          case measure => simp [nOf]; omega
        · have i3 : ¬ (k : Int) < (n : Int) := by omega
          have hkn : ps.take k = ps := List.take_of_length_le (by rw [HN.out]; omega)
          have hfin := HOR.out
          rw [hkn] at hfin
          have HFIN := Lib.hid hfin
          clear hkn hfin
          go_wp2_with fail
          go_ret
          exact ⟨.slice A3 L1 c3, rfl, HFIN.out, HBL.out, HLO.out⟩
end Go.Proofs.Ytjefpnhffdeekaa
