/- The walk of the document's answer's pairs (tallboyref17). -/
import Derived.Test.YtnmchplabaoflaaGreatDoorRtrA
namespace Go.Proofs.YtnmchplabaoflaaGreatDoor
open Go.RowKit
set_option linter.unusedVariables false

theorem twos_step (l : List Rep) (k : Nat) (a b : Rep) (h1 : l[2 * k]? = some a) (h2 : l[2 * k + 1]? = some b) : (prs (l.take (2 * (k + 1)))).map two7 = (prs (l.take (2 * k))).map two7 ++ [.mk 7 [] 0 [a, b]] := by
  rw [prs_step l k a b h1 h2, List.map_append]; rfl
theorem LivS.rv7 {w : World} {S : Nat → Prop} {A : Option Addr} {m c : Nat} {l : List Rep} (h : LivS w S (.slice A m c) l) : RV w S (.mk 7 [] 0 l) [.int .i64 7, .string ⟨#[]⟩, .int .i64 0, .slice A m c] := by
  obtain ⟨A', c', xs, hv, h1, h2, h3, h4⟩ := h
  injection hv with e1 e2 e3
  subst e1; subst e3
  rw [e2]
  exact RV.mk_ (s := []) (by unfold fits; omega) (by unfold fits; omega) (Nat.zero_le _) h1 h2 h3 h4

set_option maxRecDepth 100000 in
set_option maxHeartbeats 8000000 in
theorem rpairs_any {B n : Nat} {v : Value} (acc : List Rep) (w : World) (hor : OR w B v acc) (hn : acc.length = n) (hn1 : n ≤ 1000) (hB : B ≤ w.heap.size) :
    Calls Tryz.prog 39 #[v] w fun e w' => ∃ v', e = .returned v' ∧ OR w' B v' ((prs acc).map two7) ∧ Below w.heap.size w w' := by
  obtain ⟨it, hi', hy0, hy1, hy2⟩ := info_parts repinfo
  obtain ⟨A, c, rfl⟩ := hor.form
  have hcap : n ≤ c ∧ c ≤ maxLen := by
    obtain ⟨xs, h1, _⟩ := id hor
    rw [← hn]; exact Own.caps h1
  unfold maxLen at hcap
  have HN := Lib.hid hn
  rw [hn] at hor ⊢
  have HO := Lib.hid hor
  clear hn hor
  go_enter Tryz.func39, Tryz.ntmps39
  go_wp2_with fail
  go_loopw [3, 4] (fun x y wr => ∃ k, y = .int .i64 ((2 * k : Nat) : Int) ∧ 2 * k ≤ n + 1 ∧ OR wr B x ((prs (acc.take (2 * k))).map two7) ∧ (∀ j, x.ownBlock = some j → w.heap.size ≤ j) ∧ Below w.heap.size w wr) (fun x y _ => n + 2 - (nOf y).toNat)
  case atStart => exact ⟨0, rfl, by omega, by simpa [prs] using OR.nil w B, fun j h => by simp [Value.ownBlock] at h, Below.refl _ _⟩
  case round =>
    obtain ⟨k, rfl, hk, hpr, hown, hbel⟩ := hrel
    obtain ⟨A2, c2, rfl⟩ := hpr.form
    obtain ⟨vs, ho, hvs⟩ := id hpr
    obtain ⟨q, hq⟩ : ∃ q, ((prs (acc.take (2 * k))).map two7).length = q := ⟨_, rfl⟩
    have HQ := Lib.hid hq
    have HQL : q ≤ 1000 := by rw [← hq, List.length_map, prs_len, List.length_take, HN.out]; omega
    rw [hq] at ho hown hpr hvs ⊢
    have HB := Lib.hid hbel
    have HOW := Lib.hid hown
    have HVS := Lib.hid hvs
    have HPR := Lib.hid hpr
    have HOO := Lib.hid ho
    clear hpr hown hbel ho hvs hq
    by_cases hlt : 2 * k + 1 < n
    · have i1 : ((2 * k : Nat) : Int) + 1 < (n : Int) := by omega
      rcases HO.out.form2 with ⟨_, h0⟩ | ⟨g, rfl, hgB⟩
      · rw [HN.out] at h0; omega
      · have hk1 : 2 * k < acc.length := by rw [HN.out]; omega
        have hk2 : 2 * k + 1 < acc.length := by rw [HN.out]; omega
        have HST := Lib.hid (twos_step acc k _ _ (List.getElem?_eq_getElem hk1) (List.getElem?_eq_getElem hk2))
        have HV := Lib.hid (OR.two HO.out HN.out (List.getElem?_eq_getElem hk1) (List.getElem?_eq_getElem hk2) (by omega))
        obtain ⟨a0, ha0⟩ : ∃ a : Addr, (⟨g, 0, none⟩ : Addr) = a := ⟨_, rfl⟩
        have HA := Lib.hid ha0
        have HA4 := Lib.hid (fun k : Nat => (show a0.add k = ⟨g, k, none⟩ by rw [← ha0, spot_add rfl]; simp))
        rw [ha0]
        clear ha0
        have i2 : (0 : Int) ≤ ((2 * k : Nat) : Int) := by omega
        have i3 : ((2 * k : Nat) : Int) + 2 ≤ (c : Int) := by omega
        have i4 : ((2 * k : Nat) : Int) ≤ ((2 * k : Nat) : Int) + 2 := by omega
        have hVV := HV.out.keep (w' := wr) (S' := fun b => B ≤ b ∧ b < wr.heap.size ∧ some b ≠ (Value.slice A2 q c2).ownBlock) (fun p hp => HB.out.cell hp.2) (fun b hb => ⟨hb.1, Nat.lt_of_lt_of_le hb.2 HB.out.size, fun e => by have := HOW.out b e.symm; have := hb.2; omega⟩)
        rw [show (⟨g, 2 * k * 4, none⟩ : Addr) = a0.add (2 * k * 4) from (HA4.out _).symm] at hVV
        have hb2 : Below wr.heap.size wr (wr.alloc (.cells #[.int .i64 7, .string ⟨#[]⟩, .int .i64 0, .slice (some (a0.add (2 * k * 4))) 2 (c - 2 * k)] 24)) := (Below.refl _ _).alloc (Nat.le_refl _) _
        have hrv7 : RLs (wr.alloc (.cells #[.int .i64 7, .string ⟨#[]⟩, .int .i64 0, .slice (some (a0.add (2 * k * 4))) 2 (c - 2 * k)] 24)) (fun b => B ≤ b ∧ b < (wr.alloc (.cells #[.int .i64 7, .string ⟨#[]⟩, .int .i64 0, .slice (some (a0.add (2 * k * 4))) 2 (c - 2 * k)] 24)).heap.size ∧ some b ≠ (Value.slice A2 q c2).ownBlock) [.mk 7 [] 0 [acc[2 * k], acc[2 * k + 1]]] [.int .i64 7, .string ⟨#[]⟩, .int .i64 0, .slice (some (a0.add (2 * k * 4))) 2 (c - 2 * k)] :=
          RLs.one (RV.mono (fun b hb => ⟨hb.1, Nat.lt_of_lt_of_le hb.2.1 hb2.size, hb.2.2⟩) (RV.keep (fun p hp => hb2.cell hp.2.1) hVV.rv7))
        have HRV7 := Lib.hid hrv7
        have HB2 := Lib.hid hb2
        have hBw : B ≤ wr.heap.size := Nat.le_trans hB HB.out.size
        have hlo7 : Own (wr.alloc (.cells #[.int .i64 7, .string ⟨#[]⟩, .int .i64 0, .slice (some (a0.add (2 * k * 4))) 2 (c - 2 * k)] 24)) wr.heap.size 24 4 (.slice (some ⟨wr.heap.size, 0, none⟩) 1 1) 1 [.int .i64 7, .string ⟨#[]⟩, .int .i64 0, .slice (some (a0.add (2 * k * 4))) 2 (c - 2 * k)] :=
          Own.lit (base := wr.heap.size) wr #[.int .i64 7, .string ⟨#[]⟩, .int .i64 0, .slice (some (a0.add (2 * k * 4))) 2 (c - 2 * k)] 1 (Nat.le_refl _) (by decide) rfl
        have HSRC := Lib.hid (Src.own (P := Tryz.prog) (u := 22) (e' := 24) hlo7 Tryz.underlying22 hrv7.one1 (by decide))
        clear hVV hrv7 hb2 hlo7
        go_wp2_with (at_builtin
                     refine wpList_append_Own _ rfl (.tmp 12) (.tmp 19) _ _ rfl B 24 it _ 4 56 Tryz.underlying22 hi' hy0 hy1 hy2 rfl (.slice A2 q c2) q vs rfl (HOO.out.alloc _) _ 1 [.int .i64 7, .string ⟨#[]⟩, .int .i64 0, .slice (some (a0.add (2 * k * 4))) 2 (c - 2 * k)] rfl HSRC.out (by unfold maxLen; omega) (by omega) (by simp; omega) ?_
                     intro v1 w2 hO hg hat)
        have hPR2 : OR w2 B v1 ((prs (acc.take (2 * k))).map two7 ++ [.mk 7 [] 0 [acc[2 * k], acc[2 * k + 1]]]) :=
          OR.append (wr := wr.alloc (.cells #[.int .i64 7, .string ⟨#[]⟩, .int .i64 0, .slice (some (a0.add (2 * k * 4))) 2 (c - 2 * k)] 24)) (Nat.le_trans hBw HB2.out.size) (by rw [HQ.out]; exact HOO.out.alloc _)
            (RLs.mono (fun b hb => ⟨hb.1, Nat.lt_of_lt_of_le hb.2.1 HB2.out.size, hb.2.2⟩) (RLs.keep (fun p hp => HB2.out.cell hp.2.1) HVS.out)) HRV7.out (by rw [HQ.out]; exact hO) hg hat
        rw [← HST.out] at hPR2
        go_roundw
        case rel =>
          refine ⟨k + 1, by first | go_num | (congr 1; omega), by omega, hPR2, fun j hj => ?_, (HB.out.trans (HB2.out.mono HB.out.size)).grown hg (by simp; have := HB.out.size; omega) (fun j hj => HOW.out j hj)⟩
          rcases hat with h | h
          · exact HOW.out j (h.symm.trans hj)
          · rw [h] at hj; injection hj with hj; have := HB.out.size; simp at hj; omega
        case measure => simp [nOf]; omega
    · have i1 : ¬ ((2 * k : Nat) : Int) + 1 < (n : Int) := by omega
      have HE := Lib.hid (prs_end acc k (by rw [HN.out]; omega))
      go_wp2_with fail
      go_ret
      exact ⟨.slice A2 q c2, rfl, by rw [← HE.out]; exact HPR.out, HB.out⟩
end Go.Proofs.YtnmchplabaoflaaGreatDoor
