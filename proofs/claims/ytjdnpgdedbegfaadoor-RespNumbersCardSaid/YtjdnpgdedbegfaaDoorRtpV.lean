/- The walk of the law's reads (tallboylaw18). -/
import Derived.Test.YtjdnpgdedbegfaaDoorRtpT
import Derived.Test.YtjdnpgdedbegfaaDoorRspY
import Derived.Test.YtjdnpgdedbegfaaDoorRspX
namespace Go.Proofs.YtjdnpgdedbegfaaDoor
open Go.RowKit Go.Shelf
set_option linter.unusedVariables false

theorem AllOf.inv {b : List UInt8} {r : Rep} {l : List Rep} {k : Nat} (h : AllOf b (r :: l) k) : ∃ t m, Rsp.rd 33 b.length b = some (r, t) ∧ AllOf t l m ∧ k = b.length - t.length + m := by
  cases h with
  | more _ _ t _ m h1 h2 => exact ⟨t, m, h1, h2, rfl⟩
theorem AllOf.inv0 {b : List UInt8} {k : Nat} (h : AllOf b [] k) : Rsp.rd 33 b.length b = none ∧ k = 0 := by
  cases h with
  | stop _ h => exact ⟨h, rfl⟩
/-- A text turned into bytes. -/
theorem conv_bytes (l : List UInt8) (w : World) (hl : l.length ≤ 1048576) : ∃ cap W1, (convert 9 23 (.string (bs l))).run Tryd.prog w = .ok (.slice (some ⟨w.heap.size, 0, none⟩) l.length cap) W1 ∧ BSl W1 (.slice (some ⟨w.heap.size, 0, none⟩) l.length cap) l ∧ Below w.heap.size w W1 := by
  have hcv := run_bytes_of_string (P := Tryd.prog) w 9 23 5 (bs l) Tryd.underlying9 Tryd.underlying23 Tryd.underlying5
  have hob0 := OB.of_convert (w := w) (bs l) 5 w.heap.size (Nat.le_refl _) (by rw [bs_size]; unfold maxLen; omega)
  rw [bs_size, bs_data] at hob0
  rw [bs_size] at hcv
  exact ⟨_, _, hcv, OB.bsl hob0, ((Below.refl _ _).drew).alloc (Nat.le_refl _) _⟩

set_option maxRecDepth 100000 in
set_option maxHeartbeats 16000000 in
theorem reads_any (l : List UInt8) (w : World) (hl : l.length ≤ 1048576) :
    Calls Tryd.prog 20 #[.string (bs l)] w fun e w' => e = .returned (.bool true) ∧ Below w.heap.size w w' := by
  obtain ⟨cap, W1, hcv, hbs1, hbw1⟩ := conv_bytes l w hl
  have hD := decode_any _ l W1 hbs1 hl
  have hRD := fun w' => rdec_all 33 (by decide) l w' hl
  obtain ⟨n, hn⟩ : ∃ n, l.length = n := ⟨_, rfl⟩
  have HN := Lib.hid hn
  have hsz : (bs l).size = n := by rw [bs_size]; exact hn
  rw [hn] at hcv hD hRD hl
  obtain ⟨Y, hY⟩ : ∃ Y, Rsp.rd 33 n l = Y := ⟨_, rfl⟩
  rw [hY] at hD hRD
  have HB1 := Lib.hid hbw1
  have HD := Lib.hid hD
  have HRD := Lib.hid hRD
  clear hbs1 hn hY hD hRD hbw1
  rcases Y with _ | ⟨r, u⟩
  · go_enter Tryd.func20, Tryd.ntmps20
    go_wp2_with fail
    refine HD.out.mono ?_
    rintro e w2 ⟨rfl, hb2⟩
    have HX3 := Lib.hid (Blk.new w2 27 #[.int .i64 0, .string ⟨#[]⟩, .int .i64 0, .slice none 0 0])
    have HB2 := Lib.hid ((HB1.out.trans (hb2.mono HB1.out.size)).alloc (Nat.le_trans HB1.out.size hb2.size) (.cells #[.int .i64 0, .string ⟨#[]⟩, .int .i64 0, .slice none 0 0] 27))
    clear hb2 hcv
    go_wp2_with fail
    refine (HRD.out _).mono ?_
    rintro e w3 ⟨rfl, hb3⟩
    have HSM : Hid (Calls Tryd.prog 17 #[.agg #[.int .i64 0, .string ⟨#[]⟩, .int .i64 0, .slice none 0 0], .agg #[.int .i64 0, .string ⟨#[]⟩, .int .i64 0, .slice none 0 0]] (w3.alloc (.cells #[.int .i64 0, .string ⟨#[]⟩, .int .i64 0, .slice none 0 0] 27)) fun e w' => e = .returned (.bool true) ∧ Below (w3.alloc (.cells #[.int .i64 0, .string ⟨#[]⟩, .int .i64 0, .slice none 0 0] 27)).heap.size (w3.alloc (.cells #[.int .i64 0, .string ⟨#[]⟩, .int .i64 0, .slice none 0 0] 27)) w') :=
      Lib.hid (same_true (a := .mk 0 [] 0 []) (b := .mk 0 [] 0 []) (RV.flat_ (s := []) (by unfold fits; omega) (by unfold fits; omega) (Nat.zero_le _)) (RV.flat_ (s := []) (by unfold fits; omega) (by unfold fits; omega) (Nat.zero_le _)) rfl)
    have HGW0 := Lib.hid (Nat.le_trans HB2.out.size hb3.size)
    have hx3 := (HX3.out.below hb3 HX3.out.lt).alloc (.cells #[.int .i64 0, .string ⟨#[]⟩, .int .i64 0, .slice none 0 0] 27)
    have hx6 := Blk.new w3 27 #[.int .i64 0, .string ⟨#[]⟩, .int .i64 0, .slice none 0 0]
    have x3 := hx3.x4
    have x6 := hx6.x4
    have HB3 := Lib.hid ((HB2.out.trans (hb3.mono HB2.out.size)).alloc (Nat.le_trans HB2.out.size hb3.size) (.cells #[.int .i64 0, .string ⟨#[]⟩, .int .i64 0, .slice none 0 0] 27))
    have HX6 := Lib.hid hx6
    clear hx3 hx6 hb3
    go_wp2_with fail
    refine HSM.out.mono ?_
    rintro e w4 ⟨rfl, hb4⟩
    have HX6b := Lib.hid (HX6.out.below hb4 HX6.out.lt)
    have HB4 := Lib.hid (HB3.out.trans (hb4.mono HB3.out.size))
    have hG6 : w3.heap.size < w4.heap.size := Nat.lt_of_lt_of_le HX6.out.lt hb4.size
    clear hb4 x3 x6
    obtain ⟨cap2, W5, hcv2, hbs2, hbw2⟩ := conv_bytes l w4 (by rw [HN.out]; exact hl)
    rw [HN.out] at hcv2 hbs2
    have HALL := Lib.hid (all_any _ l W5 hbs2 (by rw [HN.out]; exact hl))
    have HB5 := Lib.hid (HB4.out.trans (hbw2.mono HB4.out.size))
    have HX6c := Lib.hid (HX6b.out.below hbw2 HX6b.out.lt)
    have hG65 : w3.heap.size < W5.heap.size := Nat.lt_of_lt_of_le hG6 hbw2.size
    clear hbs2 hbw2
    go_wp2_with fail
    refine HALL.out.mono ?_
    rintro e w6 ⟨⟨v, acc, q, rfl, hO, hA⟩, hb6⟩
    have HX6d := Lib.hid (HX6c.out.below hb6 HX6c.out.lt)
    have HB6 := Lib.hid (HB5.out.trans (hb6.mono HB5.out.size))
    obtain ⟨N, hNN⟩ : ∃ N, acc.length = N := ⟨_, rfl⟩
    have HNN := Lib.hid hNN
    obtain ⟨Av, cv, rfl⟩ := hO.form
    have HO := Lib.hid hO
    have hO0 := hO
    have HGW := Lib.hid (show w.heap.size ≤ w3.heap.size from HGW0.out)
    have HA := Lib.hid hA
    rw [hNN]
    clear hO hA hb6 hNN hcv2
    go_wp2_with fail
    rw [HNN.out] at hO0
    have hNI : (N : Int) ≤ 9223372036854775807 := by
      obtain ⟨xs, h, _⟩ := id HO.out
      have := Own.caps h
      rw [HNN.out] at this
      unfold maxLen at this
      omega
    go_loopw [11, 12] (fun x y wr => ∃ k i : Nat, x = .int .i64 (k : Nat) ∧ y = .int .i64 (i : Nat) ∧ i ≤ N ∧ k ≤ n ∧ k ≤ q ∧ Hid (AllOf (l.drop k) (acc.drop i) (q - k)) ∧ (∃ c0 c1 c2 c3, Blk wr w3.heap.size 27 #[c0, c1, c2, c3]) ∧ OR wr W5.heap.size (.slice Av N cv) acc ∧ Below w.heap.size w wr) (fun _ y _ => N - (intOf y).toNat)
    case atStart => exact ⟨0, 0, rfl, rfl, Nat.zero_le _, Nat.zero_le _, Nat.zero_le _, Lib.hid (by simpa using HA.out), ⟨_, _, _, _, HX6d.out⟩, hO0, HB6.out⟩
    case round =>
      clear hO0 HO HA
      obtain ⟨k, i, rfl, rfl, hiN, hkn, hkq, HAl, ⟨c0, c1, c2, c3, hb6⟩, hO, hbel⟩ := hrel
      have hex : (bs l).extract k n = bs (l.drop k) := by rw [bs_extract, bs_data, List.take_of_length_le (by rw [List.length_drop, HN.out]; omega)]
      have hlk : (l.drop k).length = n - k := by rw [List.length_drop, HN.out]
      have hDk := rdec_all 33 (by decide) (l.drop k) wr (by rw [hlk]; omega)
      have kI : (k : Int) ≤ (n : Int) := by omega
      rcases Nat.lt_or_ge i N with hlt | hge
      · obtain ⟨xs, hown, hrl⟩ := id hO
        rw [HNN.out] at hown
        have hrd := RD.of_own (S := fun b => W5.heap.size ≤ b ∧ b < wr.heap.size) hown (fun kk hkk => hown.lt kk hkk)
        obtain ⟨a1, r1, E1, f1, rfl, hSa1, hr1, hv1, p0, p1, p2, p3⟩ := hrd.at_ hrl HNN.out hlt
        have hdr : acc.drop i = r1 :: acc.drop (i + 1) := by
          obtain ⟨h1, h2⟩ := List.getElem?_eq_some_iff.1 hr1
          rw [List.drop_eq_getElem_cons h1, h2]
        have hA1 := HAl.out
        rw [hdr] at hA1
        obtain ⟨t, m, h1, h2, h3⟩ := AllOf.inv hA1
        have ht := Rsp.rd_drop h1
        have hsf := Rsp.rd_suf 33 h1
        rw [hlk] at hsf h3
        rw [HN.out] at ht
        rw [h1, hlk] at hDk
        obtain ⟨k', hk'⟩ : ∃ k', n - t.length = k' := ⟨_, rfl⟩
        rw [hk'] at ht
        obtain ⟨K1, hK1⟩ : ∃ K, n - k - t.length = K := ⟨_, rfl⟩
        have HN2 := Lib.hid (show AllOf (l.drop k') (acc.drop (i + 1)) (q - k') by rw [show q - k' = m by omega, ← ht]; exact h2)
        have hkq2 : k' ≤ q := by omega
        have hkn2 : k' ≤ n := by omega
        have k4 : (k : Int) + (K1 : Int) = (k' : Int) := by omega
        obtain ⟨B, hBq⟩ : ∃ B, l.drop k = B := ⟨_, rfl⟩
        rw [hBq] at hex hDk
        have HD2 : Hid (Calls Tryd.prog 30 #[.string (bs B), .int .i64 33] wr fun e w' => (∃ E f, e = .returned (.tuple #[.agg #[.int .i64 r1.k, sv r1.s, .int .i64 r1.n, .slice E r1.l.length f], .int .i64 (K1 : Nat), .bool true]) ∧ RV w' (New wr w') r1 [.int .i64 r1.k, sv r1.s, .int .i64 r1.n, .slice E r1.l.length f]) ∧ Below wr.heap.size wr w') := Lib.hid (by have h := hDk; unfold RD3 at h; simp only [hK1] at h; exact h)
        have hlt' : (i : Int) < (N : Int) := by omega
        have HB6r := Lib.hid hb6
        have HBL := Lib.hid hbel
        have HOO := Lib.hid hO
        have HV1 := Lib.hid hv1
        have HSA := Lib.hid hSa1
        have HP := Lib.hid (And.intro p0 (And.intro p1 (And.intro p2 p3)))
        clear hdr hA1 h1 h2 h3 ht hsf hDk hk' hK1 hBq hlk hb6 hbel hO hown hrl hrd hr1 hv1 p0 p1 p2 p3 hSa1
        go_wp2_with fail
        refine HD2.out.mono ?_
        rintro e w1 ⟨⟨E2, f2, rfl, hv⟩, hbx⟩
        have g6 := HB6r.out.below hbx HB6r.out.lt
        have x6 := g6.x4
        have z0 := g6.frozen 0
        have z1 := g6.frozen 1
        have z2 := g6.frozen 2
        have z3 := g6.frozen 3
        have HG6 := Lib.hid g6
        have HV := Lib.hid hv
        have HBX := Lib.hid hbx
        clear g6 hv hbx
        go_wp2_with fail
        clear x6 z0 z1 z2 z3
        obtain ⟨W7, hW7⟩ : ∃ W, put4 w1 w3.heap.size (.int .i64 r1.k) (sv r1.s) (.int .i64 r1.n) (.slice E2 r1.l.length f2) = W := ⟨_, rfl⟩
        have hc7 : ∀ p : Addr, p.block ≠ w3.heap.size → W7.cell? p = w1.cell? p := fun p hp => by rw [← hW7]; exact put4_cell _ _ _ _ _ _ _ hp
        have hz7 : W7.heap.size = w1.heap.size := by rw [← hW7]; exact put4_size _ _ _ _ _ _
        have hg7 : Blk W7 w3.heap.size 27 #[.int .i64 r1.k, sv r1.s, .int .i64 r1.n, .slice E2 r1.l.length f2] := by rw [← hW7]; exact HG6.out.put4 _ _ _ _
        have hO7 : OR W7 W5.heap.size (.slice (some a1) N cv) acc := by rw [← hW7]; exact (HOO.out.below HBX.out).put4 hG65 _ _ _ _
        have hb7 : Below w.heap.size w W7 := by rw [← hW7]; exact put4_below (HBL.out.trans (HBX.out.mono HBL.out.size)) _ HGW.out _ _ _ _
        have hl6 : Liv W7 r1 [.int .i64 r1.k, sv r1.s, .int .i64 r1.n, .slice E2 r1.l.length f2] := RV.mono (fun b hb => by rw [hz7]; exact hb.2) (RV.keep (fun p hp => hc7 p (by have := HB6r.out.lt; have := hp.1; omega)) HV.out)
        have hkeep : ∀ p : Addr, (W5.heap.size ≤ p.block ∧ p.block < wr.heap.size) → W7.cell? p = wr.cell? p := fun p hp => (hc7 p (by omega)).trans (HBX.out.cell hp.2)
        have hl1 : Liv W7 r1 [.int .i64 r1.k, sv r1.s, .int .i64 r1.n, .slice E1 r1.l.length f1] := RV.mono (fun b hb => by rw [hz7]; exact Nat.lt_of_lt_of_le hb.2.1 HBX.out.size) (RV.keep (fun p hp => hkeep p ⟨hp.1, hp.2.1⟩) HV1.out)
        have hel := HP.out
        rw [← hkeep _ (by rw [block_of_add]; exact HSA.out), ← hkeep _ (by simp only [block_of_add]; exact HSA.out), ← hkeep _ (by simp only [block_of_add]; exact HSA.out), ← hkeep _ (by simp only [block_of_add]; exact HSA.out)] at hel
        have hSz : a1.block < W7.heap.size := by rw [hz7]; exact Nat.lt_of_lt_of_le HSA.out.2 HBX.out.size
        have HK := Lib.hid (fun w' (hb : Below W7.heap.size W7 w') => (show (w'.cell? (a1.add (i * 4)) = some (.int .i64 r1.k) ∧ w'.cell? ⟨(a1.add (i * 4)).block, (a1.add (i * 4)).off + 1, none⟩ = some (sv r1.s) ∧ w'.cell? ⟨(a1.add (i * 4)).block, (a1.add (i * 4)).off + 2, none⟩ = some (.int .i64 r1.n) ∧ w'.cell? ⟨(a1.add (i * 4)).block, (a1.add (i * 4)).off + 3, none⟩ = some (.slice E1 r1.l.length f1)) ∧ (w'.cell? ⟨w3.heap.size, 0, none⟩ = some (.int .i64 r1.k) ∧ w'.cell? ⟨w3.heap.size, 1, none⟩ = some (sv r1.s) ∧ w'.cell? ⟨w3.heap.size, 2, none⟩ = some (.int .i64 r1.n) ∧ w'.cell? ⟨w3.heap.size, 3, none⟩ = some (.slice E2 r1.l.length f2)) from
          ⟨⟨(hb.cell (by rw [block_of_add]; exact hSz)).trans hel.1, (hb.cell (by simp only [block_of_add]; exact hSz)).trans hel.2.1, (hb.cell (by simp only [block_of_add]; exact hSz)).trans hel.2.2.1, (hb.cell (by simp only [block_of_add]; exact hSz)).trans hel.2.2.2⟩, (hg7.below hb hg7.lt).x4⟩))
        have HS7 := Lib.hid (fun w' (hb : Below W7.heap.size W7 w') => same_true (w := w') (hl1.below hb) (hl6.below hb) rfl)
        have HH := Lib.hid (And.intro hg7 (And.intro hO7 hb7))
        unfold put4 at hW7
        rw [hW7]
        have hS0 : Below W7.heap.size W7 W7 := Below.refl _ _
        clear hW7 hc7 hz7 hg7 hO7 hb7 hl6 hkeep hl1 hel hSz
        go_region_held (fun w' => (w'.cell? (a1.add (i * 4)) = some (.int .i64 r1.k) ∧ w'.cell? ⟨(a1.add (i * 4)).block, (a1.add (i * 4)).off + 1, none⟩ = some (sv r1.s) ∧ w'.cell? ⟨(a1.add (i * 4)).block, (a1.add (i * 4)).off + 2, none⟩ = some (.int .i64 r1.n) ∧ w'.cell? ⟨(a1.add (i * 4)).block, (a1.add (i * 4)).off + 3, none⟩ = some (.slice E1 r1.l.length f1)) ∧ (w'.cell? ⟨w3.heap.size, 0, none⟩ = some (.int .i64 r1.k) ∧ w'.cell? ⟨w3.heap.size, 1, none⟩ = some (sv r1.s) ∧ w'.cell? ⟨w3.heap.size, 2, none⟩ = some (.int .i64 r1.n) ∧ w'.cell? ⟨w3.heap.size, 3, none⟩ = some (.slice E2 r1.l.length f2)))
          (first | exact HK.out _ hS0 | exact HK.out _ hS0.drew)
          (first
            | (go_at_call 17; refine (HS7.out _ (by first | exact hS0 | exact hS0.drew)).mono ?_; rintro e w8 ⟨rfl, hb8⟩; have hS0 := below_trans (by first | exact hS0 | exact hS0.drew) hb8; clear hb8))
        all_goals
          go_wp2_with fail
          go_roundw
          case rel => exact ⟨k', i + 1, by first | rfl | go_num, by first | rfl | go_num, by omega, hkn2, hkq2, HN2, ⟨_, _, _, _, HH.out.1.below hS0 HH.out.1.lt⟩, HH.out.2.1.below hS0, HH.out.2.2.trans (hS0.mono HH.out.2.2.size)⟩
          case measure => simp [intOf]; omega
      · have hiN2 : i = N := by omega
        subst hiN2
        have hA1 := HAl.out
        have hnil : acc.drop i = [] := List.drop_eq_nil_of_le (by rw [HNN.out]; exact Nat.le_refl _)
        rw [hnil] at hA1
        obtain ⟨h1, h2⟩ := AllOf.inv0 hA1
        have hqk : k = q := by omega
        subst hqk
        rw [h1] at hDk
        obtain ⟨B, hBq⟩ : ∃ B, l.drop k = B := ⟨_, rfl⟩
        rw [hBq] at hex hDk
        have HD2 := Lib.hid hDk
        have HBL := Lib.hid hbel
        have j1 : ¬ (i : Int) < (i : Int) := by omega
        clear hA1 h1 h2 hDk hBq hlk hO hbel hb6 hnil
        go_wp2_with fail
        refine HD2.out.mono ?_
        rintro e w1 ⟨rfl, hbx⟩
        have HBF := Lib.hid ((HBL.out.trans (hbx.mono HBL.out.size)).alloc (Nat.le_trans HBL.out.size hbx.size) (.cells #[.int .i64 0, .string ⟨#[]⟩, .int .i64 0, .slice none 0 0] 27))
        clear hbx
        go_wp2_with fail
        go_ret
        exact ⟨rfl, HBF.out⟩
  · obtain ⟨K, hK⟩ : ∃ K, n - u.length = K := ⟨_, rfl⟩
    have HD2 : Hid (Calls Tryd.prog 10 #[.slice (some ⟨w.heap.size, 0, none⟩) n cap] W1 fun e w' => (∃ E f, e = .returned (.tuple #[.agg #[.int .i64 r.k, sv r.s, .int .i64 r.n, .slice E r.l.length f], .int .i64 (K : Nat), .int .i64 0]) ∧ RV w' (New W1 w') r [.int .i64 r.k, sv r.s, .int .i64 r.n, .slice E r.l.length f]) ∧ Below W1.heap.size W1 w') := Lib.hid (by have h := HD.out; unfold DRet at h; simp only [hK] at h; exact h)
    have HRD2 : Hid (∀ w2 : World, Calls Tryd.prog 30 #[.string (bs l), .int .i64 33] w2 fun e w' => (∃ E f, e = .returned (.tuple #[.agg #[.int .i64 r.k, sv r.s, .int .i64 r.n, .slice E r.l.length f], .int .i64 (K : Nat), .bool true]) ∧ RV w' (New w2 w') r [.int .i64 r.k, sv r.s, .int .i64 r.n, .slice E r.l.length f]) ∧ Below w2.heap.size w2 w') := Lib.hid (by have h := HRD.out; unfold RD3 at h; simp only [hK] at h; exact h)
    clear HD HRD hK
    go_enter Tryd.func20, Tryd.ntmps20
    go_wp2_with fail
    refine HD2.out.mono ?_
    rintro e w2 ⟨⟨E, f, rfl, hv⟩, hb2⟩
    have HX3 := Lib.hid (Blk.new w2 27 #[.int .i64 r.k, sv r.s, .int .i64 r.n, .slice E r.l.length f])
    have HB2 := Lib.hid ((HB1.out.trans (hb2.mono HB1.out.size)).alloc (Nat.le_trans HB1.out.size hb2.size) (.cells #[.int .i64 r.k, sv r.s, .int .i64 r.n, .slice E r.l.length f] 27))
    have HL3 := Lib.hid (hv.liv.below ((Below.refl _ _).alloc (Nat.le_refl _) (.cells #[.int .i64 r.k, sv r.s, .int .i64 r.n, .slice E r.l.length f] 27)))
    clear hb2 hcv hv
    go_wp2_with fail
    refine (HRD2.out _).mono ?_
    rintro e w3 ⟨⟨E6, f6, rfl, hv6⟩, hb3⟩
    have HSM : Hid (Calls Tryd.prog 17 #[.agg #[.int .i64 r.k, sv r.s, .int .i64 r.n, .slice E r.l.length f], .agg #[.int .i64 r.k, sv r.s, .int .i64 r.n, .slice E6 r.l.length f6]] (w3.alloc (.cells #[.int .i64 r.k, sv r.s, .int .i64 r.n, .slice E6 r.l.length f6] 27)) fun e w' => e = .returned (.bool true) ∧ Below (w3.alloc (.cells #[.int .i64 r.k, sv r.s, .int .i64 r.n, .slice E6 r.l.length f6] 27)).heap.size (w3.alloc (.cells #[.int .i64 r.k, sv r.s, .int .i64 r.n, .slice E6 r.l.length f6] 27)) w') :=
      Lib.hid (same_true ((HL3.out.below hb3).below ((Below.refl _ _).alloc (Nat.le_refl _) _)) (hv6.liv.below ((Below.refl _ _).alloc (Nat.le_refl _) _)) rfl)
    clear hv6
    have HGW0 := Lib.hid (Nat.le_trans HB2.out.size hb3.size)
    have hx3 := (HX3.out.below hb3 HX3.out.lt).alloc (.cells #[.int .i64 r.k, sv r.s, .int .i64 r.n, .slice E6 r.l.length f6] 27)
    have hx6 := Blk.new w3 27 #[.int .i64 r.k, sv r.s, .int .i64 r.n, .slice E6 r.l.length f6]
    have x3 := hx3.x4
    have x6 := hx6.x4
    have HB3 := Lib.hid ((HB2.out.trans (hb3.mono HB2.out.size)).alloc (Nat.le_trans HB2.out.size hb3.size) (.cells #[.int .i64 r.k, sv r.s, .int .i64 r.n, .slice E6 r.l.length f6] 27))
    have HX6 := Lib.hid hx6
    clear hx3 hx6 hb3
    go_wp2_with fail
    refine HSM.out.mono ?_
    rintro e w4 ⟨rfl, hb4⟩
    have HX6b := Lib.hid (HX6.out.below hb4 HX6.out.lt)
    have HB4 := Lib.hid (HB3.out.trans (hb4.mono HB3.out.size))
    have hG6 : w3.heap.size < w4.heap.size := Nat.lt_of_lt_of_le HX6.out.lt hb4.size
    clear hb4 x3 x6
    obtain ⟨cap2, W5, hcv2, hbs2, hbw2⟩ := conv_bytes l w4 (by rw [HN.out]; exact hl)
    rw [HN.out] at hcv2 hbs2
    have HALL := Lib.hid (all_any _ l W5 hbs2 (by rw [HN.out]; exact hl))
    have HB5 := Lib.hid (HB4.out.trans (hbw2.mono HB4.out.size))
    have HX6c := Lib.hid (HX6b.out.below hbw2 HX6b.out.lt)
    have hG65 : w3.heap.size < W5.heap.size := Nat.lt_of_lt_of_le hG6 hbw2.size
    clear hbs2 hbw2
    go_wp2_with fail
    refine HALL.out.mono ?_
    rintro e w6 ⟨⟨v, acc, q, rfl, hO, hA⟩, hb6⟩
    have HX6d := Lib.hid (HX6c.out.below hb6 HX6c.out.lt)
    have HB6 := Lib.hid (HB5.out.trans (hb6.mono HB5.out.size))
    obtain ⟨N, hNN⟩ : ∃ N, acc.length = N := ⟨_, rfl⟩
    have HNN := Lib.hid hNN
    obtain ⟨Av, cv, rfl⟩ := hO.form
    have HO := Lib.hid hO
    have hO0 := hO
    have HGW := Lib.hid (show w.heap.size ≤ w3.heap.size from HGW0.out)
    have HA := Lib.hid hA
    rw [hNN]
    clear hO hA hb6 hNN hcv2
    go_wp2_with fail
    rw [HNN.out] at hO0
    have hNI : (N : Int) ≤ 9223372036854775807 := by
      obtain ⟨xs, h, _⟩ := id HO.out
      have := Own.caps h
      rw [HNN.out] at this
      unfold maxLen at this
      omega
    go_loopw [11, 12] (fun x y wr => ∃ k i : Nat, x = .int .i64 (k : Nat) ∧ y = .int .i64 (i : Nat) ∧ i ≤ N ∧ k ≤ n ∧ k ≤ q ∧ Hid (AllOf (l.drop k) (acc.drop i) (q - k)) ∧ (∃ c0 c1 c2 c3, Blk wr w3.heap.size 27 #[c0, c1, c2, c3]) ∧ OR wr W5.heap.size (.slice Av N cv) acc ∧ Below w.heap.size w wr) (fun _ y _ => N - (intOf y).toNat)
    case atStart => exact ⟨0, 0, rfl, rfl, Nat.zero_le _, Nat.zero_le _, Nat.zero_le _, Lib.hid (by simpa using HA.out), ⟨_, _, _, _, HX6d.out⟩, hO0, HB6.out⟩
    case round =>
      clear hO0 HO HA
      obtain ⟨k, i, rfl, rfl, hiN, hkn, hkq, HAl, ⟨c0, c1, c2, c3, hb6⟩, hO, hbel⟩ := hrel
      have hex : (bs l).extract k n = bs (l.drop k) := by rw [bs_extract, bs_data, List.take_of_length_le (by rw [List.length_drop, HN.out]; omega)]
      have hlk : (l.drop k).length = n - k := by rw [List.length_drop, HN.out]
      have hDk := rdec_all 33 (by decide) (l.drop k) wr (by rw [hlk]; omega)
      have kI : (k : Int) ≤ (n : Int) := by omega
      rcases Nat.lt_or_ge i N with hlt | hge
      · obtain ⟨xs, hown, hrl⟩ := id hO
        rw [HNN.out] at hown
        have hrd := RD.of_own (S := fun b => W5.heap.size ≤ b ∧ b < wr.heap.size) hown (fun kk hkk => hown.lt kk hkk)
        obtain ⟨a1, r1, E1, f1, rfl, hSa1, hr1, hv1, p0, p1, p2, p3⟩ := hrd.at_ hrl HNN.out hlt
        have hdr : acc.drop i = r1 :: acc.drop (i + 1) := by
          obtain ⟨h1, h2⟩ := List.getElem?_eq_some_iff.1 hr1
          rw [List.drop_eq_getElem_cons h1, h2]
        have hA1 := HAl.out
        rw [hdr] at hA1
        obtain ⟨t, m, h1, h2, h3⟩ := AllOf.inv hA1
        have ht := Rsp.rd_drop h1
        have hsf := Rsp.rd_suf 33 h1
        rw [hlk] at hsf h3
        rw [HN.out] at ht
        rw [h1, hlk] at hDk
        obtain ⟨k', hk'⟩ : ∃ k', n - t.length = k' := ⟨_, rfl⟩
        rw [hk'] at ht
        obtain ⟨K1, hK1⟩ : ∃ K, n - k - t.length = K := ⟨_, rfl⟩
        have HN2 := Lib.hid (show AllOf (l.drop k') (acc.drop (i + 1)) (q - k') by rw [show q - k' = m by omega, ← ht]; exact h2)
        have hkq2 : k' ≤ q := by omega
        have hkn2 : k' ≤ n := by omega
        have k4 : (k : Int) + (K1 : Int) = (k' : Int) := by omega
        obtain ⟨B, hBq⟩ : ∃ B, l.drop k = B := ⟨_, rfl⟩
        rw [hBq] at hex hDk
        have HD2 : Hid (Calls Tryd.prog 30 #[.string (bs B), .int .i64 33] wr fun e w' => (∃ E f, e = .returned (.tuple #[.agg #[.int .i64 r1.k, sv r1.s, .int .i64 r1.n, .slice E r1.l.length f], .int .i64 (K1 : Nat), .bool true]) ∧ RV w' (New wr w') r1 [.int .i64 r1.k, sv r1.s, .int .i64 r1.n, .slice E r1.l.length f]) ∧ Below wr.heap.size wr w') := Lib.hid (by have h := hDk; unfold RD3 at h; simp only [hK1] at h; exact h)
        have hlt' : (i : Int) < (N : Int) := by omega
        have HB6r := Lib.hid hb6
        have HBL := Lib.hid hbel
        have HOO := Lib.hid hO
        have HV1 := Lib.hid hv1
        have HSA := Lib.hid hSa1
        have HP := Lib.hid (And.intro p0 (And.intro p1 (And.intro p2 p3)))
        clear hdr hA1 h1 h2 h3 ht hsf hDk hk' hK1 hBq hlk hb6 hbel hO hown hrl hrd hr1 hv1 p0 p1 p2 p3 hSa1
        go_wp2_with fail
        refine HD2.out.mono ?_
        rintro e w1 ⟨⟨E2, f2, rfl, hv⟩, hbx⟩
        have g6 := HB6r.out.below hbx HB6r.out.lt
        have x6 := g6.x4
        have z0 := g6.frozen 0
        have z1 := g6.frozen 1
        have z2 := g6.frozen 2
        have z3 := g6.frozen 3
        have HG6 := Lib.hid g6
        have HV := Lib.hid hv
        have HBX := Lib.hid hbx
        clear g6 hv hbx
        go_wp2_with fail
        clear x6 z0 z1 z2 z3
        obtain ⟨W7, hW7⟩ : ∃ W, put4 w1 w3.heap.size (.int .i64 r1.k) (sv r1.s) (.int .i64 r1.n) (.slice E2 r1.l.length f2) = W := ⟨_, rfl⟩
        have hc7 : ∀ p : Addr, p.block ≠ w3.heap.size → W7.cell? p = w1.cell? p := fun p hp => by rw [← hW7]; exact put4_cell _ _ _ _ _ _ _ hp
        have hz7 : W7.heap.size = w1.heap.size := by rw [← hW7]; exact put4_size _ _ _ _ _ _
        have hg7 : Blk W7 w3.heap.size 27 #[.int .i64 r1.k, sv r1.s, .int .i64 r1.n, .slice E2 r1.l.length f2] := by rw [← hW7]; exact HG6.out.put4 _ _ _ _
        have hO7 : OR W7 W5.heap.size (.slice (some a1) N cv) acc := by rw [← hW7]; exact (HOO.out.below HBX.out).put4 hG65 _ _ _ _
        have hb7 : Below w.heap.size w W7 := by rw [← hW7]; exact put4_below (HBL.out.trans (HBX.out.mono HBL.out.size)) _ HGW.out _ _ _ _
        have hl6 : Liv W7 r1 [.int .i64 r1.k, sv r1.s, .int .i64 r1.n, .slice E2 r1.l.length f2] := RV.mono (fun b hb => by rw [hz7]; exact hb.2) (RV.keep (fun p hp => hc7 p (by have := HB6r.out.lt; have := hp.1; omega)) HV.out)
        have hkeep : ∀ p : Addr, (W5.heap.size ≤ p.block ∧ p.block < wr.heap.size) → W7.cell? p = wr.cell? p := fun p hp => (hc7 p (by omega)).trans (HBX.out.cell hp.2)
        have hl1 : Liv W7 r1 [.int .i64 r1.k, sv r1.s, .int .i64 r1.n, .slice E1 r1.l.length f1] := RV.mono (fun b hb => by rw [hz7]; exact Nat.lt_of_lt_of_le hb.2.1 HBX.out.size) (RV.keep (fun p hp => hkeep p ⟨hp.1, hp.2.1⟩) HV1.out)
        have hel := HP.out
        rw [← hkeep _ (by rw [block_of_add]; exact HSA.out), ← hkeep _ (by simp only [block_of_add]; exact HSA.out), ← hkeep _ (by simp only [block_of_add]; exact HSA.out), ← hkeep _ (by simp only [block_of_add]; exact HSA.out)] at hel
        have hSz : a1.block < W7.heap.size := by rw [hz7]; exact Nat.lt_of_lt_of_le HSA.out.2 HBX.out.size
        have HK := Lib.hid (fun w' (hb : Below W7.heap.size W7 w') => (show (w'.cell? (a1.add (i * 4)) = some (.int .i64 r1.k) ∧ w'.cell? ⟨(a1.add (i * 4)).block, (a1.add (i * 4)).off + 1, none⟩ = some (sv r1.s) ∧ w'.cell? ⟨(a1.add (i * 4)).block, (a1.add (i * 4)).off + 2, none⟩ = some (.int .i64 r1.n) ∧ w'.cell? ⟨(a1.add (i * 4)).block, (a1.add (i * 4)).off + 3, none⟩ = some (.slice E1 r1.l.length f1)) ∧ (w'.cell? ⟨w3.heap.size, 0, none⟩ = some (.int .i64 r1.k) ∧ w'.cell? ⟨w3.heap.size, 1, none⟩ = some (sv r1.s) ∧ w'.cell? ⟨w3.heap.size, 2, none⟩ = some (.int .i64 r1.n) ∧ w'.cell? ⟨w3.heap.size, 3, none⟩ = some (.slice E2 r1.l.length f2)) from
          ⟨⟨(hb.cell (by rw [block_of_add]; exact hSz)).trans hel.1, (hb.cell (by simp only [block_of_add]; exact hSz)).trans hel.2.1, (hb.cell (by simp only [block_of_add]; exact hSz)).trans hel.2.2.1, (hb.cell (by simp only [block_of_add]; exact hSz)).trans hel.2.2.2⟩, (hg7.below hb hg7.lt).x4⟩))
        have HS7 := Lib.hid (fun w' (hb : Below W7.heap.size W7 w') => same_true (w := w') (hl1.below hb) (hl6.below hb) rfl)
        have HH := Lib.hid (And.intro hg7 (And.intro hO7 hb7))
        unfold put4 at hW7
        rw [hW7]
        have hS0 : Below W7.heap.size W7 W7 := Below.refl _ _
        clear hW7 hc7 hz7 hg7 hO7 hb7 hl6 hkeep hl1 hel hSz
        go_region_held (fun w' => (w'.cell? (a1.add (i * 4)) = some (.int .i64 r1.k) ∧ w'.cell? ⟨(a1.add (i * 4)).block, (a1.add (i * 4)).off + 1, none⟩ = some (sv r1.s) ∧ w'.cell? ⟨(a1.add (i * 4)).block, (a1.add (i * 4)).off + 2, none⟩ = some (.int .i64 r1.n) ∧ w'.cell? ⟨(a1.add (i * 4)).block, (a1.add (i * 4)).off + 3, none⟩ = some (.slice E1 r1.l.length f1)) ∧ (w'.cell? ⟨w3.heap.size, 0, none⟩ = some (.int .i64 r1.k) ∧ w'.cell? ⟨w3.heap.size, 1, none⟩ = some (sv r1.s) ∧ w'.cell? ⟨w3.heap.size, 2, none⟩ = some (.int .i64 r1.n) ∧ w'.cell? ⟨w3.heap.size, 3, none⟩ = some (.slice E2 r1.l.length f2)))
          (first | exact HK.out _ hS0 | exact HK.out _ hS0.drew)
          (first
            | (go_at_call 17; refine (HS7.out _ (by first | exact hS0 | exact hS0.drew)).mono ?_; rintro e w8 ⟨rfl, hb8⟩; have hS0 := below_trans (by first | exact hS0 | exact hS0.drew) hb8; clear hb8))
        all_goals
          go_wp2_with fail
          go_roundw
          case rel => exact ⟨k', i + 1, by first | rfl | go_num, by first | rfl | go_num, by omega, hkn2, hkq2, HN2, ⟨_, _, _, _, HH.out.1.below hS0 HH.out.1.lt⟩, HH.out.2.1.below hS0, HH.out.2.2.trans (hS0.mono HH.out.2.2.size)⟩
          case measure => simp [intOf]; omega
      · have hiN2 : i = N := by omega
        subst hiN2
        have hA1 := HAl.out
        have hnil : acc.drop i = [] := List.drop_eq_nil_of_le (by rw [HNN.out]; exact Nat.le_refl _)
        rw [hnil] at hA1
        obtain ⟨h1, h2⟩ := AllOf.inv0 hA1
        have hqk : k = q := by omega
        subst hqk
        rw [h1] at hDk
        obtain ⟨B, hBq⟩ : ∃ B, l.drop k = B := ⟨_, rfl⟩
        rw [hBq] at hex hDk
        have HD2 := Lib.hid hDk
        have HBL := Lib.hid hbel
        have j1 : ¬ (i : Int) < (i : Int) := by omega
        clear hA1 h1 h2 hDk hBq hlk hO hbel hb6 hnil
        go_wp2_with fail
        refine HD2.out.mono ?_
        rintro e w1 ⟨rfl, hbx⟩
        have HBF := Lib.hid ((HBL.out.trans (hbx.mono HBL.out.size)).alloc (Nat.le_trans HBL.out.size hbx.size) (.cells #[.int .i64 0, .string ⟨#[]⟩, .int .i64 0, .slice none 0 0] 27))
        clear hbx
        go_wp2_with fail
        go_ret
        exact ⟨rfl, HBF.out⟩
end Go.Proofs.YtjdnpgdedbegfaaDoor
