/- The walk of the law RespNumbers (tallboylaw18). -/
import Derived.Test.YtjdnpgdedbegfaaDoorRtpW
namespace Go.Proofs.YtjdnpgdedbegfaaDoor
open Go.RowKit Go.Shelf
set_option linter.unusedVariables false

/-- The cells of two replies that hold views of a block. -/
def ap (k b c : Nat) : List Value := [.int .i64 (k : Nat), .string ⟨#[]⟩, .int .i64 0, .slice (some ⟨b, 0, none⟩) k c, .int .i64 (k : Nat), .string ⟨#[]⟩, .int .i64 0, .slice (some ⟨b, 0, none⟩) 3 c]
def apps : Nat → List (Nat × Nat) → List Value
  | _, [] => []
  | k, p :: t => ap k p.1 p.2 ++ apps (k + 1) t
theorem apps_snoc : ∀ (ws : List (Nat × Nat)) (k : Nat) (p : Nat × Nat), apps k (ws ++ [p]) = apps k ws ++ ap (k + ws.length) p.1 p.2
  | [], k, p => by simp [apps]
  | q :: t, k, p => by
    rw [List.cons_append, apps, apps, apps_snoc t (k + 1) p, List.append_assoc, List.length_cons, show k + 1 + t.length = k + (t.length + 1) by omega]
/-- Behind an append the blocks that begin with the leaves do so still. -/
theorem LB.app {wr w4 : World} {B n' b g : Nat} {v' : Value} {rest : List Value} (h : LB wr b) (hg : wr.grownBy w4 (some g)) (hO : Own w4 B 27 4 v' n' (lcs ++ rest)) (hn : 0 < n')
    (hat : v'.ownBlock = some g ∨ (v'.ownBlock = some wr.heap.size ∧ wr.grownBy w4 none)) : LB w4 b := by
  rcases hat with e | ⟨_, e⟩
  · by_cases hb : b = g
    · subst hb
      rcases hO.form with ⟨_, h0⟩ | ⟨g2, cap, rfl, _⟩
      · omega
      · injection e with e
        subst e
        exact LB.of_own hO
    · exact h.grown hg (fun e => hb (Option.some.inj e))
  · exact h.grown e (fun e => by cases e)

theorem own_form {w : World} {B n : Nat} {e : TypeId} {v : Value} {xs : List Value} (h : Own w B e 4 v n xs) (hn : 0 < n) : ∃ g c, v = .slice (some ⟨g, 0, none⟩) n c ∧ B ≤ g ∧ g < w.heap.size ∧ n ≤ c ∧ c ≤ maxLen := by
  rcases h.form with ⟨_, h0⟩ | ⟨g, cap, e, h1, h2, h3, h4⟩
  · omega
  · exact ⟨g, cap, e, h1, h2, h3, h4⟩

def texts18 : List (List UInt8) := [[42, 45, 49, 13, 10], [42, 45, 50, 13, 10], [36, 45, 49, 13, 10], [36, 45, 50, 13, 10], [37, 45, 49, 13, 10], [37, 49, 13, 10, 58, 49, 13, 10], [126, 45, 49, 13, 10], [42, 57, 57, 57, 57, 57, 57, 57, 57, 57, 57, 57, 57, 57, 57, 57, 57, 57, 57, 57, 57, 13, 10], [42, 57, 50, 50, 51, 51, 55, 50, 48, 51, 54, 56, 53, 52, 55, 55, 53, 56, 48, 55, 13, 10], [37, 52, 54, 49, 49, 54, 56, 54, 48, 49, 56, 52, 50, 55, 51, 56, 55, 57, 48, 53, 13, 10], [36, 57, 50, 50, 51, 51, 55, 50, 48, 51, 54, 56, 53, 52, 55, 55, 53, 56, 48, 55, 13, 10], [58, 43, 49, 13, 10], [58, 13, 10], [43, 97, 13, 98, 13, 10], [43, 97, 10], [95, 120, 13, 10], [120], [36, 50, 13, 10, 97, 98, 99, 13, 10]]
/-- The whole row, read as replies. -/
theorem ap_rls {w : World} {k b c : Nat} (h : LB w b) (hk3 : 3 ≤ k) (hk : k ≤ 10) (hc : 10 ≤ c) (hcm : c ≤ maxLen) : RLs w (fun b => b < w.heap.size) [.mk (k : Nat) [] 0 (leaves.take k), .mk (k : Nat) [] 0 (leaves.take 3)] (ap k b c) := by
  have h1 := view_live (w := w) (b := b) (m := k) (c := c) (k : Nat) h hk (by omega) hcm (by unfold fits; omega)
  have h2 := view_live (w := w) (b := b) (m := 3) (c := c) (k : Nat) h (by omega) (by omega) hcm (by unfold fits; omega)
  exact RLs.append (l := [_]) (m := [_]) (RLs.one h1) (RLs.one h2)
theorem rows_rls {w : World} {p7 p8 p9 : Nat × Nat} (h : ∀ p ∈ [p7, p8, p9], LB w p.1 ∧ 10 ≤ p.2 ∧ p.2 ≤ maxLen) : RLs w (fun b => b < w.heap.size) reps16 (lcs ++ apps 7 [p7, p8, p9]) := by
  have h7 := h p7 (by simp)
  have h8 := h p8 (by simp)
  have h9 := h p9 (by simp)
  have a7 := ap_rls (k := 7) h7.1 (by omega) (by omega) h7.2.1 h7.2.2
  have a8 := ap_rls (k := 8) h8.1 (by omega) (by omega) h8.2.1 h8.2.2
  have a9 := ap_rls (k := 9) h9.1 (by omega) (by omega) h9.2.1 h9.2.2
  have := RLs.append (leaf_rv w (fun b => b < w.heap.size)) (RLs.append a7 (RLs.append a8 (RLs.append a9 RLs.nil)))
  simpa [apps, reps16] using this

set_option maxRecDepth 100000 in
set_option maxHeartbeats 16000000 in
theorem respNumbers_walk (w : World) (hmy : My w) :
    Calls Tryd.prog 6 #[] w fun e w' => e = .returned (.bool true) ∧ Below w.heap.size w w' := by
  obtain ⟨i0, hi, hz0, hz1, hz2⟩ := info_parts repinfo
  have HMy := Lib.hid hmy
  clear hmy
  have hown0 : Own (w.alloc (.cells lcs.toArray 27)) w.heap.size 27 4 (.slice (some ⟨w.heap.size, 0, none⟩) 10 10) 10 lcs := Own.lit (base := w.heap.size) w lcs.toArray 10 (Nat.le_refl _) (by decide) rfl
  have HO0 := Lib.hid hown0
  have HB0 := Lib.hid (show Below w.heap.size w (w.alloc (.cells lcs.toArray 27)) from (Below.refl _ _).alloc (Nat.le_refl _) _)
  clear hown0
  go_enter Tryd.func6, Tryd.ntmps6
  go_wp2_with fail
  go_loopw [1, 2] (fun x y wr => ∃ (ws : List (Nat × Nat)) (v : Value), x = v ∧ y = .int .i64 ((7 + ws.length : Nat) : Int) ∧ ws.length ≤ 3 ∧ Hid (Own wr w.heap.size 27 4 v (10 + 2 * ws.length) (lcs ++ apps 7 ws)) ∧ Hid (∀ p ∈ ws, LB wr p.1 ∧ 10 ≤ p.2 ∧ p.2 ≤ maxLen) ∧ Below w.heap.size w wr) (fun _ y _ => 10 - (intOf y).toNat)
  case atStart => exact ⟨[], _, rfl, rfl, by simp, Lib.hid (by show Own _ _ _ _ _ 10 (lcs ++ []); rw [List.append_nil]; exact HO0.out), Lib.hid (fun p hp => by cases hp), HB0.out⟩
  case round =>
    clear HO0 HB0
    obtain ⟨ws, v, rfl, rfl, hws, HO, HLB, hbel⟩ := hrel
    obtain ⟨j, hj⟩ : ∃ j, ws.length = j := ⟨_, rfl⟩
    have HJ := Lib.hid hj
    rw [hj] at hws HO ⊢
    clear hj
    rcases Nat.lt_or_ge j 3 with hlt | hge
    · obtain ⟨g, c, rfl, hgB, hgl, hnc, hcm⟩ := own_form HO.out (by omega)
      obtain ⟨K, hK⟩ : ∃ K, 7 + j = K := ⟨_, rfl⟩
      obtain ⟨N, hN⟩ : ∃ N, 10 + 2 * j = N := ⟨_, rfl⟩
      have HK := Lib.hid hK
      have HNN := Lib.hid hN
      rw [hN] at HO hnc ⊢
      rw [hK]
      have HCM := Lib.hid (show 10 ≤ c ∧ c ≤ maxLen from ⟨by omega, hcm⟩)
      have HLG := Lib.hid (LB.of_own HO.out)
      have HBL := Lib.hid hbel
      have hsB : w.heap.size ≤ wr.heap.size := hbel.size
      have hcm2 := hcm
      unfold maxLen at hcm2
      have e1 : (K : Int) ≤ (c : Int) := by omega
      have e2 : (0 : Int) ≤ (K : Int) := by omega
      have e3 : (3 : Int) ≤ (c : Int) := by omega
      have e4 : (K : Int) ≤ 9 := by omega
      have hN20 : N ≤ 20 := by omega
      have hlit : Own (wr.drew.alloc (.cells (ap K g c).toArray 27)) w.heap.size 27 4 (.slice (some ⟨wr.heap.size, 0, none⟩) 2 2) 2 (ap K g c) := Own.lit (base := w.heap.size) wr.drew (ap K g c).toArray 2 hsB (by decide) rfl
      have hone : ∀ v ∈ ap K g c, v.oneCell' = true := by intro v hv; simp only [ap, List.mem_cons, List.mem_nil_iff, or_false] at hv; rcases hv with rfl | rfl | rfl | rfl | rfl | rfl | rfl | rfl <;> rfl
      have HSRC := Lib.hid (Src.own (P := Tryd.prog) (u := 25) (e' := 27) hlit Tryd.underlying25 hone (by decide))
      have HOW := Lib.hid (HO.out.drew.alloc (.cells (ap K g c).toArray 27))
      clear hlit hone hbel hcm hK hN
      go_wp2_with fail
      go_region_law (refine (step_append_Own2 _ (by rfl) (.tmp 26) (.tmp 36) _ _ (by rfl) w.heap.size 27 i0 _ 4 56 Tryd.underlying25 hi hz0 hz1 hz2 rfl (.slice (some ⟨g, 0, none⟩) N c) N (lcs ++ apps 7 ws) (by rfl) HOW.out _ 2 (ap K g c) (by rfl) HSRC.out (by unfold maxLen; omega) (by omega) (Nat.le_trans hsB (by simp)) ?_); intro v4 w4 hO4 hg4 hat)
      all_goals
        obtain ⟨A4, c4, rfl⟩ := hO4.sliceForm
        have hbw : Below wr.heap.size wr (wr.drew.alloc (.cells (ap K g c).toArray 27)) := ((Below.refl _ _).drew).alloc (Nat.le_refl _) _
        have hO5 : Own w4 w.heap.size 27 4 (.slice A4 (N + 2) c4) (N + 2) (lcs ++ apps 7 (ws ++ [(g, c)])) := by
          rw [apps_snoc, HJ.out, HK.out, ← List.append_assoc]; exact hO4
        have hat' : (Value.slice A4 (N + 2) c4).ownBlock = some g ∨ ((Value.slice A4 (N + 2) c4).ownBlock = some (wr.drew.alloc (.cells (ap K g c).toArray 27)).heap.size ∧ (wr.drew.alloc (.cells (ap K g c).toArray 27)).grownBy w4 none) := hat
        have hlb : ∀ p ∈ ws ++ [(g, c)], LB w4 p.1 ∧ 10 ≤ p.2 ∧ p.2 ≤ maxLen := by
          intro p hp
          rcases List.mem_append.1 hp with h | h
          · have h1 := HLB.out p h
            exact ⟨(h1.1.below hbw).app hg4 hO5 (by omega) hat', h1.2⟩
          · rw [List.mem_singleton.1 h]
            exact ⟨(HLG.out.below hbw).app hg4 hO5 (by omega) hat', HCM.out⟩
        have hbf : Below w.heap.size w w4 := (HBL.out.trans (hbw.mono HBL.out.size)).grown hg4 (Nat.le_trans hsB (by simp)) (fun k hk => by have : g = k := Option.some.inj hk; omega)
        have hln : (ws ++ [(g, c)]).length = j + 1 := by rw [List.length_append, HJ.out]; rfl
        have HO5 := Lib.hid hO5
        have HLB5 := Lib.hid hlb
        have HBF := Lib.hid hbf
        have HLN := Lib.hid hln
        clear hO5 hlb hbf hln hat hat' hbw hO4 hg4
        go_wp2_with fail
        go_roundw
        case rel => exact ⟨ws ++ [(g, c)], _, rfl, by rw [HLN.out]; first | rfl | go_num | (have := HK.out; congr 1; omega), by rw [HLN.out]; omega, Lib.hid (by rw [HLN.out, show 10 + 2 * (j + 1) = N + 2 by have := HNN.out; omega]; exact HO5.out), HLB5, HBF.out⟩
        case measure => have := HK.out; simp [intOf]; omega
    · have hj3 : j = 3 := by omega
      subst hj3
      obtain ⟨p7, p8, p9, rfl⟩ : ∃ a b c, ws = [a, b, c] := by
        have := HJ.out
        match ws, this with
        | [a, b, c], _ => exact ⟨a, b, c, rfl⟩
      obtain ⟨g, c, rfl, hgB, hgl, hnc, hcm⟩ := own_form HO.out (by omega)
      have HRLS := Lib.hid (rows_rls HLB.out)
      have HBL := Lib.hid hbel
      obtain ⟨a0, ha0⟩ : ∃ a : Addr, (⟨g, 0, none⟩ : Addr) = a := ⟨_, rfl⟩
      have hgb : a0.block < wr.heap.size := by rw [← ha0]; exact hgl
      have hrd0 := RD.of_own (S := fun b => b < wr.heap.size) HO.out (fun kk hkk => (HO.out.lt kk hkk).2)
      rw [ha0] at hrd0 ⊢
      have HRD := Lib.hid hrd0
      obtain ⟨wq, hwq⟩ : ∃ x : World, x = wr := ⟨_, rfl⟩
      subst hwq
      clear hrd0 ha0 hbel hgl hgB HLB HO
      go_wp2_with fail
      go_loopw [3] (fun x wr => ∃ i : Nat, i ≤ 16 ∧ x = .int .i64 (i : Nat) ∧ Below wq.heap.size wq wr) (fun x _ => 16 - (intOf x).toNat)
      case atStart => exact ⟨0, by omega, rfl, Below.refl _ _⟩
      case round =>
        obtain ⟨i, hi16, rfl, hbel⟩ := hrel
        rcases Nat.lt_or_ge i 16 with hlt | hge2
        · obtain ⟨a1, r1, E1, f1, ha1, hSa1, hr1, hv1, p0, p1, p2, p3⟩ := (HRD.out.keep (fun p hp => hbel.cell hp)).at_ (RLs.keep (fun p hp => hbel.cell hp) HRLS.out) reps16_len hlt
          obtain rfl : a0 = a1 := Option.some.inj ha1
          have hmem := List.mem_of_getElem? hr1
          have hokr := reps16_okF r1 hmem
          have henc := reps16_enc r1 hmem
          have hlv : Liv wr r1 [.int .i64 r1.k, sv r1.s, .int .i64 r1.n, .slice E1 r1.l.length f1] := RV.mono (fun b hb => Nat.lt_of_lt_of_le hb hbel.size) hv1
          have hmw := HMy.out.below_ (HBL.out.trans (hbel.mono HBL.out.size))
          have HWR := Lib.hid (writes_any 1 r1 E1 f1 wr hokr hlv hmw (fun t => Nat.le_trans (henc t) (by omega)))
          have j1 : (i : Int) < 16 := by omega
          have HBE := Lib.hid hbel
          have HLV := Lib.hid hlv
          have HEN := Lib.hid henc
          clear hv1 hr1 hmem hokr henc hlv hmw hbel ha1 hSa1
          go_wp2_with fail
          refine HWR.out.mono ?_
          rintro e w1 ⟨rfl, hb1⟩
          have HB1 := Lib.hid hb1
          have HP := Lib.hid (And.intro p0 (And.intro p1 (And.intro p2 p3)))
          have hgb2 : a0.block < wr.heap.size := Nat.lt_of_lt_of_le hgb HBE.out.size
          clear hb1 p0 p1 p2 p3 HWR
          go_wp2_with fail
          obtain ⟨wp, hwp⟩ : ∃ x : World, x = wr := ⟨_, rfl⟩
          subst hwp
          go_loopw [4] (fun x wr => ∃ m : Nat, 2 ≤ m ∧ m ≤ 4 ∧ x = .int .i64 (m : Nat) ∧ Below wp.heap.size wp wr) (fun x _ => 4 - (intOf x).toNat)
          case atStart => exact ⟨2, by omega, by omega, rfl, HB1.out⟩
          case round =>
            obtain ⟨m, hm2, hm4, rfl, hbm⟩ := hrel
            have HBM := Lib.hid hbm
            rcases Nat.lt_or_ge m 4 with hlt2 | hge3
            · have p0 := (hbm.cell (by rw [block_of_add]; exact hgb2)).trans HP.out.1
              have p1 := (hbm.cell (by simp only [block_of_add]; exact hgb2)).trans HP.out.2.1
              have p2 := (hbm.cell (by simp only [block_of_add]; exact hgb2)).trans HP.out.2.2.1
              have p3 := (hbm.cell (by simp only [block_of_add]; exact hgb2)).trans HP.out.2.2.2
              obtain ⟨t, ht⟩ : ∃ t, (((m : Nat) : Int) == 3) = t := ⟨_, rfl⟩
              have hen := HEN.out t
              have HRE := Lib.hid (ref_encode _ r1 (Nat.le_refl _) t (m : Nat) wr _ (HLV.out.below hbm) ht (by unfold fits; omega) (Nat.le_trans hen (by omega)))
              obtain ⟨X, hX⟩ : ∃ X, enc t r1 = X := ⟨_, rfl⟩
              rw [hX] at HRE hen
              have j2 : (m : Int) < 4 := by omega
              have HEX := Lib.hid hen
              clear hX ht hbm hen
              go_wp2_with fail
              refine HRE.out.mono ?_
              rintro e w2 ⟨rfl, hb2⟩
              have HB2 := Lib.hid (HBM.out.trans (hb2.mono HBM.out.size))
              clear hb2 p0 p1 p2 p3
              obtain ⟨L, hL⟩ : ∃ L, X.length = L := ⟨_, rfl⟩
              have HL := Lib.hid hL
              have hszX : (bs X).size = L := by rw [bs_size]; exact hL
              rw [show sv X = .string (bs X) from rfl]
              have hL1000 : L ≤ 1000 := by rw [← hL]; exact HEX.out
              clear hL
              go_wp2_with fail
              obtain ⟨wn, hwn⟩ : ∃ x : World, x = wr := ⟨_, rfl⟩
              subst hwn
              go_loopw [6] (fun x wr => ∃ n : Nat, n ≤ L + 1 ∧ x = .int .i64 (n : Nat) ∧ Below wp.heap.size wp wr) (fun x _ => L + 1 - (intOf x).toNat)
              case atStart => exact ⟨0, by omega, rfl, HB2.out⟩
              case round =>
                obtain ⟨n, hnL, rfl, hbn⟩ := hrel
                have HBN := Lib.hid hbn
                clear hbn
                rcases Nat.lt_or_ge L n with hgt | hle
                · have j3 : ¬ (n : Int) ≤ (L : Int) := by omega
                  go_wp2_with fail
                  go_roundw
                  case rel => exact ⟨m + 1, by omega, by omega, by first | rfl | go_num, HBN.out⟩
                  case measure => simp [intOf]; omega
                · have j3 : (n : Int) ≤ (L : Int) := by omega
                  have j4 : (0 : Int) ≤ (n : Int) := by omega
                  have hex : (bs X).extract 0 n = bs (X.take n) := by rw [bs_extract, bs_data]; simp
                  have hadd := run_string_add_sum (P := Tryd.prog) wr (bs X) (bs (X.take n)) (by rw [bs_size, bs_size, HL.out, List.length_take]; omega)
                  rw [bs_append] at hadd
                  have HR1 := Lib.hid (fun w' => reads_any (X.take n) w' (by rw [List.length_take]; omega))
                  have HR2 := Lib.hid (fun w' => reads_any (X ++ X.take n) w' (by rw [List.length_append, HL.out, List.length_take]; omega))
                  obtain ⟨Y, hY⟩ : ∃ Y, X.take n = Y := ⟨_, rfl⟩
                  obtain ⟨Z, hZ⟩ : ∃ Z, X ++ Y = Z := ⟨_, rfl⟩
                  rw [hY] at hex hadd HR1 HR2
                  rw [hZ] at HR2
                  clear hadd
                  have hadd2 := fun w' => run_string_add_sum (P := Tryd.prog) w' (bs X) (bs Y) (by rw [bs_size, bs_size, HL.out, ← hY, List.length_take]; omega)
                  rw [bs_append, hZ] at hadd2
                  clear hY hZ
                  go_wp2_with fail
                  refine (HR1.out _).mono ?_
                  rintro e w3 ⟨rfl, hb3⟩
                  have HB3 := Lib.hid hb3
                  have hadd3 := hadd2 w3
                  clear hb3 hadd2
                  go_wp2_with fail
                  refine (HR2.out _).mono ?_
                  rintro e w4 ⟨rfl, hb4⟩
                  have HB4 := Lib.hid (below_trans HB3.out hb4)
                  clear hb4 hadd3
                  go_wp2_with fail
                  go_roundw
                  case rel => exact ⟨n + 1, by omega, by first | rfl | go_num, HBN.out.trans (HB4.out.mono HBN.out.size)⟩
                  case measure => simp [intOf]; omega
            · have j2 : ¬ (m : Int) < 4 := by omega
              go_wp2_with fail
              go_roundw
              case rel => exact ⟨i + 1, by omega, by first | rfl | go_num, HBE.out.trans (HBM.out.mono HBE.out.size)⟩
              case measure => simp [intOf]; omega
        · have j1 : ¬ (i : Int) < 16 := by omega
          have HBE := Lib.hid (HBL.out.trans (hbel.mono HBL.out.size))
          have hT : Blk (wr.alloc (.cells (texts18.map sv).toArray 9)) wr.heap.size 9 (texts18.map sv).toArray := Blk.new wr _ _
          have HT := Lib.hid (fun (i : Nat) (t : List UInt8) (h : texts18[i]? = some t) => (show (wr.alloc (.cells (texts18.map sv).toArray 9)).cell? ⟨wr.heap.size, i, none⟩ = some (sv t) by rw [hT.cell i]; simp [h]))
          have HBT := Lib.hid (HBE.out.alloc HBE.out.size (.cells (texts18.map sv).toArray 9))
          have hbs : wr.heap.size < (wr.alloc (.cells (texts18.map sv).toArray 9)).heap.size := by simp
          have HSZ := Lib.hid hbs
          clear hbel hT hbs
          go_wp2_with fail
          obtain ⟨wq2, hwq2⟩ : ∃ x : World, x = wr := ⟨_, rfl⟩
          subst hwq2
          go_loopw [82] (fun x wr => ∃ i : Nat, i ≤ 18 ∧ x = .int .i64 (i : Nat) ∧ Below (wq2.alloc (.cells (texts18.map sv).toArray 9)).heap.size (wq2.alloc (.cells (texts18.map sv).toArray 9)) wr) (fun x _ => 18 - (intOf x).toNat)
          case atStart => exact ⟨0, by omega, rfl, Below.refl _ _⟩
          case round =>
            obtain ⟨k, hk18, rfl, hbk⟩ := hrel
            have HBK := Lib.hid hbk
            rcases Nat.lt_or_ge k 18 with hlt3 | hge4
            · obtain ⟨s, hs⟩ : ∃ s, texts18[k]? = some s := ⟨_, List.getElem?_eq_getElem hlt3⟩
              have hc := (hbk.cell (p := ⟨wq2.heap.size, k, none⟩) HSZ.out).trans (HT.out k s hs)
              have hsl : s.length ≤ 1048576 := by
                have h : (texts18.all fun t => decide (t.length ≤ 1048576)) = true := by decide +kernel
                exact of_decide_eq_true (List.all_eq_true.1 h s (List.mem_of_getElem? hs))
              have HR := Lib.hid (fun w' => reads_any s w' hsl)
              have j2 : (k : Int) < 18 := by omega
              clear hs hsl hbk
              rw [show sv s = .string (bs s) from rfl] at hc
              go_wp2_with fail
              refine (HR.out _).mono ?_
              rintro e w5 ⟨rfl, hb5⟩
              have HB5 := Lib.hid hb5
              clear hb5 hc
              go_wp2_with fail
              go_roundw
              case rel => exact ⟨k + 1, by omega, by first | rfl | go_num, HBK.out.trans (HB5.out.mono HBK.out.size)⟩
              case measure => simp [intOf]; omega
            · have j2 : ¬ (k : Int) < 18 := by omega
              have HBK2 := Lib.hid (HBT.out.trans (HBK.out.mono HBT.out.size))
              clear hbk
              go_wp2_with fail
              go_loopw [9, 10] (fun x y wr => ∃ (i : Nat) (s : List UInt8), i ≤ 40 ∧ y = .int .i64 (i : Nat) ∧ x = sv s ∧ Hid (s.length = 4 * i) ∧ Below w.heap.size w wr) (fun _ y _ => 40 - (intOf y).toNat)
              case atStart => exact ⟨0, [], by omega, rfl, rfl, Lib.hid rfl, HBK2.out⟩
              case round =>
                obtain ⟨i, s, hi40, rfl, rfl, HSL, hb6⟩ := hrel
                have HB6 := Lib.hid hb6
                clear hb6
                rw [show sv s = .string (bs s) from rfl]
                rcases Nat.lt_or_ge i 40 with hlt6 | hge6
                · have hsl := HSL.out
                  have h1 := run_string_add_sum (P := Tryd.prog) wr (bs s) (bs [58, 49, 13, 10]) (by rw [bs_size, bs_size, hsl]; simp; omega)
                  have h2 := fun w' => run_string_add_sum (P := Tryd.prog) w' (bs s) (bs [42, 49, 13, 10]) (by rw [bs_size, bs_size, hsl]; simp; omega)
                  rw [bs_append, show bs [58, 49, 13, 10] = ⟨#[58, 49, 13, 10]⟩ from rfl] at h1
                  rw [bs_append, show bs [42, 49, 13, 10] = ⟨#[42, 49, 13, 10]⟩ from rfl] at h2
                  have HR := Lib.hid (fun w' => reads_any (s ++ [58, 49, 13, 10]) w' (by rw [List.length_append, hsl]; simp; omega))
                  have HSN := Lib.hid (show (s ++ [42, 49, 13, 10]).length = 4 * (i + 1) by rw [List.length_append, hsl]; simp; omega)
                  obtain ⟨X, hX⟩ : ∃ X, s ++ [58, 49, 13, 10] = X := ⟨_, rfl⟩
                  obtain ⟨Y, hY⟩ : ∃ X, s ++ [42, 49, 13, 10] = X := ⟨_, rfl⟩
                  rw [hX] at h1 HR
                  rw [hY] at h2 HSN
                  have H2 := Lib.hid h2
                  have j3 : (i : Int) < 40 := by omega
                  clear hX hY hsl h2
                  go_wp2_with fail
                  refine (HR.out _).mono ?_
                  rintro e w7 ⟨rfl, hb7⟩
                  have HB7 := Lib.hid hb7
                  have h3 := H2.out w7
                  clear hb7 h1
                  go_wp2_with fail
                  go_roundw
                  case rel => exact ⟨i + 1, Y, by omega, by first | rfl | go_num, rfl, HSN, HB6.out.trans (HB7.out.mono HB6.out.size)⟩
                  case measure => simp [intOf]; omega
                · have j3 : ¬ (i : Int) < 40 := by omega
                  have HKN := Lib.hid (fun w' (h : My w') => known_any w' h)
                  go_wp2_with fail
                  refine (HKN.out _ (HMy.out.below_ HB6.out)).mono ?_
                  rintro e w8 ⟨rfl, hb8⟩
                  have HB8 := Lib.hid hb8
                  clear hb8
                  go_wp2_with fail
                  go_ret
                  exact ⟨rfl, HB6.out.trans (HB8.out.mono HB6.out.size)⟩
end Go.Proofs.YtjdnpgdedbegfaaDoor
