/- The walk of the reference's Decode (tallboyref18), where a number is read; at any levels. -/
import Derived.Test.YtjdnpgdedbegfaaDoorRtpS
namespace Go.Proofs.YtjdnpgdedbegfaaDoor
open Go.RowKit Go.Shelf
set_option linter.unusedVariables false

/-- What comes of a number that was read, or of none. -/
def Rsp.aft2 (f : List UInt8 → Option (Rep × List UInt8)) (L : Nat) (c : UInt8) (t : List UInt8) : Option Int → Option (Rep × List UInt8)
  | none => none
  | some m => Rsp.cnt f L c m t
def Rsp.aft (f : List UInt8 → Option (Rep × List UInt8)) (L : Nat) (c : UInt8) : Option (List UInt8 × List UInt8) → Option (Rep × List UInt8)
  | none => none
  | some (s, t) => Rsp.aft2 f L c t (Num.prs s)

set_option maxRecDepth 100000 in
set_option maxHeartbeats 8000000 in
theorem rdec_num58 (d : Nat) (hd : d ≤ 1000) (ih : RDecAt d) (l b : List UInt8) (w : World) (hc : l = 58 :: b) (hl : l.length ≤ 1048576) : Calls Tryd.prog 30 #[.string (bs l), .int .i64 ((d + 1 : Nat) : Int)] w fun e w' => RD3 w w' e l.length (Rsp.rd (d + 1) l.length l) ∧ Below w.heap.size w w' := by
  have hlp : 0 < l.length := by rw [hc]; simp
  have hcn : ∀ (p : Nat) (nn : Int) (w : World), p ≤ l.length → fits nn → Calls Tryd.prog 42 #[.string (bs l), .int .i64 nn, .int .i64 (p : Nat), .int .i64 ((d + 1 : Nat) : Int)] w fun e w' => RD3 w w' e l.length (Rsp.cnt (Rsp.rd d l.length) l.length 58 nn (l.drop p)) ∧ Below w.heap.size w w' := fun p nn w h1 h2 => rcnt_int d l b p nn w hc hl h1 h2
  have hnu := fun w => rnumber_any l w hl hlp
  obtain ⟨n, hn⟩ : ∃ n, l.length = n := ⟨_, rfl⟩
  have HN := Lib.hid hn
  have hsz : (bs l).size = n := by rw [bs_size]; exact hn
  have h0 : 0 < n := by rw [← hn, hc]; simp
  have hz : 0 < (bs l).size := by rw [hsz]; exact h0
  have hg0 : (bs l)[0]'hz = 58 := by rw [bs_get18 l 0 hz (by rw [hn]; exact h0)]; simp [hc]
  rw [hn] at hl hcn hnu ⊢
  have HZ := Lib.hid (zz_blk w #[.int .i64 0, .string ⟨#[]⟩, .int .i64 0, .slice none 0 0])
  have HB := Lib.hid (zz_below w #[.int .i64 0, .string ⟨#[]⟩, .int .i64 0, .slice none 0 0])
  obtain ⟨X, hX⟩ : ∃ X, Rsp.rd (d + 1) n l = X := ⟨_, rfl⟩
  rw [hX]
  obtain ⟨D, hD⟩ : ∃ D, d + 1 = D := ⟨_, rfl⟩
  rw [hD] at hcn ⊢
  obtain ⟨Y, hY⟩ : ∃ Y, Rsp.crl (l.drop 1) = Y := ⟨_, rfl⟩
  have hXY : X = Rsp.aft (Rsp.rd d n) n 58 Y := by
    rw [← hX, ← hY, hc, Rsp.rd_num (by decide)]
    show _ = Rsp.aft _ _ _ (Rsp.crl b)
    cases Rsp.crl b with
    | none => rfl
    | some q =>
      obtain ⟨s, t⟩ := q
      show _ = Rsp.aft2 _ _ _ t (Num.prs s)
      simp only
      cases Num.prs s <;> rfl
  have hYd : ∀ s t, Y = some (s, t) → t = l.drop (n - t.length) ∧ t.length ≤ n := fun s t h => by
    rw [h] at hY
    have h1 := Rsp.crl_len hY
    have h2 : l = 58 :: (s ++ 13 :: 10 :: t) := by rw [hc] at h1 ⊢; rw [← h1]; rfl
    have h3 : n = s.length + t.length + 3 := by rw [← hn, h2]; simp; omega
    refine ⟨?_, by omega⟩
    rw [show n - t.length = s.length + 3 by omega, h2]
    rw [show (58 :: (s ++ 13 :: 10 :: t)) = (58 :: s ++ [13, 10]) ++ t by simp, List.drop_append, List.drop_eq_nil_of_le (by simp)]
    simp
  rw [hY] at hnu
  have i1 : (0 : Int) < (n : Int) := by omega
  have i2 : ((n : Int) == 0) = false := by simp; omega
  have i3 : ¬ (D : Int) < 1 := by omega
  have HXY := Lib.hid hXY
  have HYD := Lib.hid hYd
  have HCN := Lib.hid hcn
  have HNU := Lib.hid hnu
  clear hc hX hY hD hn hXY hYd hcn hnu hlp ih
  rcases Y with _ | ⟨s, t⟩
  · have HR := Lib.hid (show X = none from HXY.out)
    have HNU2 : Hid (∀ w, Calls Tryd.prog 41 #[.string (bs l)] w fun e w' => e = .returned (.tuple #[.int .i64 0, .int .i64 0, .bool false]) ∧ w = w') := Lib.hid HNU.out
    clear HNU
    go_enter Tryd.func30, Tryd.ntmps30
    go_wp2_with fail
    refine (HNU2.out _).mono ?_
    rintro e w1 ⟨rfl, rfl⟩
    go_wp2_with fail
    refine bodyPost_ret (ret_cell3 rfl _ _ w.heap.size _ _ _ _ _ rfl HZ.out) rfl ?_
    rw [HR.out]
    exact ⟨rfl, HB.out⟩
  · obtain ⟨p, hp⟩ : ∃ p, n - t.length = p := ⟨_, rfl⟩
    obtain ⟨ht, htl⟩ := HYD.out s t rfl
    rw [hp] at ht
    obtain ⟨P, hP⟩ : ∃ P, Num.prs s = P := ⟨_, rfl⟩
    have HNU2 : Hid (∀ w, Calls Tryd.prog 41 #[.string (bs l)] w fun e w' => e = .returned (.tuple #[.int .i64 (P.getD 0), .int .i64 (p : Nat), .bool P.isSome]) ∧ w = w') := Lib.hid (by have := HNU.out; unfold nRet at this; simp only [hP, hp] at this; exact this)
    have hX2 : X = Rsp.aft2 (Rsp.rd d n) n 58 t P := by rw [HXY.out, ← hP]; rfl
    have hbd : ∀ m, P = some m → fits m := fun m h => Num.prs_bd (hP.trans h)
    have hpn : p ≤ n := by omega
    have HX2 := Lib.hid hX2
    have HBD := Lib.hid hbd
    have HTT := Lib.hid ht
    clear HNU ht htl hp hP hX2 hbd HXY HYD
    rcases P with _ | m
    · have HR := Lib.hid (show X = none from HX2.out)
      go_enter Tryd.func30, Tryd.ntmps30
      go_wp2_with fail
      refine (HNU2.out _).mono ?_
      rintro e w1 ⟨rfl, rfl⟩
      go_wp2_with fail
      refine bodyPost_ret (ret_cell3 rfl _ _ w.heap.size _ _ _ _ _ rfl HZ.out) rfl ?_
      rw [HR.out]
      exact ⟨rfl, HB.out⟩
    · have HC2 := Lib.hid (HCN.out p m ((w.alloc (.cells #[.int .i64 0, .string ⟨#[]⟩, .int .i64 0, .slice none 0 0] 27)).alloc (.cells #[.int .i64 0, .string ⟨#[]⟩, .int .i64 0, .slice none 0 0] 27)) hpn (HBD.out m rfl))
      have HR := Lib.hid (show X = Rsp.cnt (Rsp.rd d n) n 58 m (l.drop p) by rw [HX2.out, HTT.out]; rfl)
      rw [← HR.out] at HC2
      clear HR HX2 HCN HBD HTT
      rcases X with _ | ⟨r, u⟩
      · go_enter Tryd.func30, Tryd.ntmps30
        go_wp2_with fail
        refine (HNU2.out _).mono ?_
        rintro e w1 ⟨rfl, rfl⟩
        go_wp2_with fail
        refine HC2.out.mono ?_
        rintro e w1 ⟨rfl, hb1⟩
        have g1 := HZ.out.below hb1 HZ.out.lt
        have z0 := g1.frozen 0
        have z1 := g1.frozen 1
        have z2 := g1.frozen 2
        have z3 := g1.frozen 3
        have x1 := g1.x4
        have HBF := Lib.hid (HB.out.trans (hb1.mono HB.out.size))
        clear hb1
        go_wp2_with fail
        refine bodyPost_ret (ret_cell3 rfl _ _ w.heap.size _ _ _ _ _ rfl (g1.put4 _ _ _ _)) rfl ?_
        exact ⟨rfl, put4_below HBF.out _ (Nat.le_refl _) _ _ _ _⟩
      · have HC3 : Hid (Calls Tryd.prog 42 #[.string (bs l), .int .i64 m, .int .i64 (p : Nat), .int .i64 (D : Nat)] ((w.alloc (.cells #[.int .i64 0, .string ⟨#[]⟩, .int .i64 0, .slice none 0 0] 27)).alloc (.cells #[.int .i64 0, .string ⟨#[]⟩, .int .i64 0, .slice none 0 0] 27)) fun e w' => (∃ E f, e = .returned (.tuple #[.agg #[.int .i64 r.k, sv r.s, .int .i64 r.n, .slice E r.l.length f], .int .i64 ((n - u.length : Nat) : Int), .bool true]) ∧ RV w' (New ((w.alloc (.cells #[.int .i64 0, .string ⟨#[]⟩, .int .i64 0, .slice none 0 0] 27)).alloc (.cells #[.int .i64 0, .string ⟨#[]⟩, .int .i64 0, .slice none 0 0] 27)) w') r [.int .i64 r.k, sv r.s, .int .i64 r.n, .slice E r.l.length f]) ∧ Below (((w.alloc (.cells #[.int .i64 0, .string ⟨#[]⟩, .int .i64 0, .slice none 0 0] 27)).alloc (.cells #[.int .i64 0, .string ⟨#[]⟩, .int .i64 0, .slice none 0 0] 27))).heap.size ((w.alloc (.cells #[.int .i64 0, .string ⟨#[]⟩, .int .i64 0, .slice none 0 0] 27)).alloc (.cells #[.int .i64 0, .string ⟨#[]⟩, .int .i64 0, .slice none 0 0] 27)) w') := Lib.hid HC2.out
        obtain ⟨K, hK⟩ : ∃ K, n - u.length = K := ⟨_, rfl⟩
        have HK := Lib.hid hK
        rw [hK] at HC3
        clear HC2 hK
        go_enter Tryd.func30, Tryd.ntmps30
        go_wp2_with fail
        refine (HNU2.out _).mono ?_
        rintro e w1 ⟨rfl, rfl⟩
        go_wp2_with fail
        refine HC3.out.mono ?_
        rintro e w1 ⟨⟨E, f, rfl, hv⟩, hb1⟩
        have HV := Lib.hid hv
        have HSZ := Lib.hid (show w.heap.size < (((w.alloc (.cells #[.int .i64 0, .string ⟨#[]⟩, .int .i64 0, .slice none 0 0] 27)).alloc (.cells #[.int .i64 0, .string ⟨#[]⟩, .int .i64 0, .slice none 0 0] 27))).heap.size by rw [World.alloc_size, World.alloc_size]; omega)
        have g1 := HZ.out.below hb1 HZ.out.lt
        have z0 := g1.frozen 0
        have z1 := g1.frozen 1
        have z2 := g1.frozen 2
        have z3 := g1.frozen 3
        have x1 := g1.x4
        have HBF := Lib.hid (HB.out.trans (hb1.mono HB.out.size))
        clear hb1 hv
        go_wp2_with fail
        refine bodyPost_ret (ret_cell3 rfl _ _ w.heap.size _ _ _ _ _ rfl (g1.put4 _ _ _ _)) rfl ?_
        refine ⟨⟨E, f, ?_, put4_rv HV.out HSZ.out _ _ _ _⟩, put4_below HBF.out _ (Nat.le_refl _) _ _ _ _⟩
        rw [HK.out]; rfl

set_option maxRecDepth 100000 in
set_option maxHeartbeats 8000000 in
theorem rdec_num36 (d : Nat) (hd : d ≤ 1000) (ih : RDecAt d) (l b : List UInt8) (w : World) (hc : l = 36 :: b) (hl : l.length ≤ 1048576) : Calls Tryd.prog 30 #[.string (bs l), .int .i64 ((d + 1 : Nat) : Int)] w fun e w' => RD3 w w' e l.length (Rsp.rd (d + 1) l.length l) ∧ Below w.heap.size w w' := by
  have hlp : 0 < l.length := by rw [hc]; simp
  have hcn : ∀ (p : Nat) (nn : Int) (w : World), p ≤ l.length → fits nn → Calls Tryd.prog 42 #[.string (bs l), .int .i64 nn, .int .i64 (p : Nat), .int .i64 ((d + 1 : Nat) : Int)] w fun e w' => RD3 w w' e l.length (Rsp.cnt (Rsp.rd d l.length) l.length 36 nn (l.drop p)) ∧ Below w.heap.size w w' := fun p nn w h1 h2 => rcnt_bulk d l b p nn w hc hl h1 h2
  have hnu := fun w => rnumber_any l w hl hlp
  obtain ⟨n, hn⟩ : ∃ n, l.length = n := ⟨_, rfl⟩
  have HN := Lib.hid hn
  have hsz : (bs l).size = n := by rw [bs_size]; exact hn
  have h0 : 0 < n := by rw [← hn, hc]; simp
  have hz : 0 < (bs l).size := by rw [hsz]; exact h0
  have hg0 : (bs l)[0]'hz = 36 := by rw [bs_get18 l 0 hz (by rw [hn]; exact h0)]; simp [hc]
  rw [hn] at hl hcn hnu ⊢
  have HZ := Lib.hid (zz_blk w #[.int .i64 0, .string ⟨#[]⟩, .int .i64 0, .slice none 0 0])
  have HB := Lib.hid (zz_below w #[.int .i64 0, .string ⟨#[]⟩, .int .i64 0, .slice none 0 0])
  obtain ⟨X, hX⟩ : ∃ X, Rsp.rd (d + 1) n l = X := ⟨_, rfl⟩
  rw [hX]
  obtain ⟨D, hD⟩ : ∃ D, d + 1 = D := ⟨_, rfl⟩
  rw [hD] at hcn ⊢
  obtain ⟨Y, hY⟩ : ∃ Y, Rsp.crl (l.drop 1) = Y := ⟨_, rfl⟩
  have hXY : X = Rsp.aft (Rsp.rd d n) n 36 Y := by
    rw [← hX, ← hY, hc, Rsp.rd_num (by decide)]
    show _ = Rsp.aft _ _ _ (Rsp.crl b)
    cases Rsp.crl b with
    | none => rfl
    | some q =>
      obtain ⟨s, t⟩ := q
      show _ = Rsp.aft2 _ _ _ t (Num.prs s)
      simp only
      cases Num.prs s <;> rfl
  have hYd : ∀ s t, Y = some (s, t) → t = l.drop (n - t.length) ∧ t.length ≤ n := fun s t h => by
    rw [h] at hY
    have h1 := Rsp.crl_len hY
    have h2 : l = 36 :: (s ++ 13 :: 10 :: t) := by rw [hc] at h1 ⊢; rw [← h1]; rfl
    have h3 : n = s.length + t.length + 3 := by rw [← hn, h2]; simp; omega
    refine ⟨?_, by omega⟩
    rw [show n - t.length = s.length + 3 by omega, h2]
    rw [show (36 :: (s ++ 13 :: 10 :: t)) = (36 :: s ++ [13, 10]) ++ t by simp, List.drop_append, List.drop_eq_nil_of_le (by simp)]
    simp
  rw [hY] at hnu
  have i1 : (0 : Int) < (n : Int) := by omega
  have i2 : ((n : Int) == 0) = false := by simp; omega
  have i3 : ¬ (D : Int) < 1 := by omega
  have HXY := Lib.hid hXY
  have HYD := Lib.hid hYd
  have HCN := Lib.hid hcn
  have HNU := Lib.hid hnu
  clear hc hX hY hD hn hXY hYd hcn hnu hlp ih
  rcases Y with _ | ⟨s, t⟩
  · have HR := Lib.hid (show X = none from HXY.out)
    have HNU2 : Hid (∀ w, Calls Tryd.prog 41 #[.string (bs l)] w fun e w' => e = .returned (.tuple #[.int .i64 0, .int .i64 0, .bool false]) ∧ w = w') := Lib.hid HNU.out
    clear HNU
    go_enter Tryd.func30, Tryd.ntmps30
    go_wp2_with fail
    refine (HNU2.out _).mono ?_
    rintro e w1 ⟨rfl, rfl⟩
    go_wp2_with fail
    refine bodyPost_ret (ret_cell3 rfl _ _ w.heap.size _ _ _ _ _ rfl HZ.out) rfl ?_
    rw [HR.out]
    exact ⟨rfl, HB.out⟩
  · obtain ⟨p, hp⟩ : ∃ p, n - t.length = p := ⟨_, rfl⟩
    obtain ⟨ht, htl⟩ := HYD.out s t rfl
    rw [hp] at ht
    obtain ⟨P, hP⟩ : ∃ P, Num.prs s = P := ⟨_, rfl⟩
    have HNU2 : Hid (∀ w, Calls Tryd.prog 41 #[.string (bs l)] w fun e w' => e = .returned (.tuple #[.int .i64 (P.getD 0), .int .i64 (p : Nat), .bool P.isSome]) ∧ w = w') := Lib.hid (by have := HNU.out; unfold nRet at this; simp only [hP, hp] at this; exact this)
    have hX2 : X = Rsp.aft2 (Rsp.rd d n) n 36 t P := by rw [HXY.out, ← hP]; rfl
    have hbd : ∀ m, P = some m → fits m := fun m h => Num.prs_bd (hP.trans h)
    have hpn : p ≤ n := by omega
    have HX2 := Lib.hid hX2
    have HBD := Lib.hid hbd
    have HTT := Lib.hid ht
    clear HNU ht htl hp hP hX2 hbd HXY HYD
    rcases P with _ | m
    · have HR := Lib.hid (show X = none from HX2.out)
      go_enter Tryd.func30, Tryd.ntmps30
      go_wp2_with fail
      refine (HNU2.out _).mono ?_
      rintro e w1 ⟨rfl, rfl⟩
      go_wp2_with fail
      refine bodyPost_ret (ret_cell3 rfl _ _ w.heap.size _ _ _ _ _ rfl HZ.out) rfl ?_
      rw [HR.out]
      exact ⟨rfl, HB.out⟩
    · have HC2 := Lib.hid (HCN.out p m ((w.alloc (.cells #[.int .i64 0, .string ⟨#[]⟩, .int .i64 0, .slice none 0 0] 27)).alloc (.cells #[.int .i64 0, .string ⟨#[]⟩, .int .i64 0, .slice none 0 0] 27)) hpn (HBD.out m rfl))
      have HR := Lib.hid (show X = Rsp.cnt (Rsp.rd d n) n 36 m (l.drop p) by rw [HX2.out, HTT.out]; rfl)
      rw [← HR.out] at HC2
      clear HR HX2 HCN HBD HTT
      rcases X with _ | ⟨r, u⟩
      · go_enter Tryd.func30, Tryd.ntmps30
        go_wp2_with fail
        refine (HNU2.out _).mono ?_
        rintro e w1 ⟨rfl, rfl⟩
        go_wp2_with fail
        refine HC2.out.mono ?_
        rintro e w1 ⟨rfl, hb1⟩
        have g1 := HZ.out.below hb1 HZ.out.lt
        have z0 := g1.frozen 0
        have z1 := g1.frozen 1
        have z2 := g1.frozen 2
        have z3 := g1.frozen 3
        have x1 := g1.x4
        have HBF := Lib.hid (HB.out.trans (hb1.mono HB.out.size))
        clear hb1
        go_wp2_with fail
        refine bodyPost_ret (ret_cell3 rfl _ _ w.heap.size _ _ _ _ _ rfl (g1.put4 _ _ _ _)) rfl ?_
        exact ⟨rfl, put4_below HBF.out _ (Nat.le_refl _) _ _ _ _⟩
      · have HC3 : Hid (Calls Tryd.prog 42 #[.string (bs l), .int .i64 m, .int .i64 (p : Nat), .int .i64 (D : Nat)] ((w.alloc (.cells #[.int .i64 0, .string ⟨#[]⟩, .int .i64 0, .slice none 0 0] 27)).alloc (.cells #[.int .i64 0, .string ⟨#[]⟩, .int .i64 0, .slice none 0 0] 27)) fun e w' => (∃ E f, e = .returned (.tuple #[.agg #[.int .i64 r.k, sv r.s, .int .i64 r.n, .slice E r.l.length f], .int .i64 ((n - u.length : Nat) : Int), .bool true]) ∧ RV w' (New ((w.alloc (.cells #[.int .i64 0, .string ⟨#[]⟩, .int .i64 0, .slice none 0 0] 27)).alloc (.cells #[.int .i64 0, .string ⟨#[]⟩, .int .i64 0, .slice none 0 0] 27)) w') r [.int .i64 r.k, sv r.s, .int .i64 r.n, .slice E r.l.length f]) ∧ Below (((w.alloc (.cells #[.int .i64 0, .string ⟨#[]⟩, .int .i64 0, .slice none 0 0] 27)).alloc (.cells #[.int .i64 0, .string ⟨#[]⟩, .int .i64 0, .slice none 0 0] 27))).heap.size ((w.alloc (.cells #[.int .i64 0, .string ⟨#[]⟩, .int .i64 0, .slice none 0 0] 27)).alloc (.cells #[.int .i64 0, .string ⟨#[]⟩, .int .i64 0, .slice none 0 0] 27)) w') := Lib.hid HC2.out
        obtain ⟨K, hK⟩ : ∃ K, n - u.length = K := ⟨_, rfl⟩
        have HK := Lib.hid hK
        rw [hK] at HC3
        clear HC2 hK
        go_enter Tryd.func30, Tryd.ntmps30
        go_wp2_with fail
        refine (HNU2.out _).mono ?_
        rintro e w1 ⟨rfl, rfl⟩
        go_wp2_with fail
        refine HC3.out.mono ?_
        rintro e w1 ⟨⟨E, f, rfl, hv⟩, hb1⟩
        have HV := Lib.hid hv
        have HSZ := Lib.hid (show w.heap.size < (((w.alloc (.cells #[.int .i64 0, .string ⟨#[]⟩, .int .i64 0, .slice none 0 0] 27)).alloc (.cells #[.int .i64 0, .string ⟨#[]⟩, .int .i64 0, .slice none 0 0] 27))).heap.size by rw [World.alloc_size, World.alloc_size]; omega)
        have g1 := HZ.out.below hb1 HZ.out.lt
        have z0 := g1.frozen 0
        have z1 := g1.frozen 1
        have z2 := g1.frozen 2
        have z3 := g1.frozen 3
        have x1 := g1.x4
        have HBF := Lib.hid (HB.out.trans (hb1.mono HB.out.size))
        clear hb1 hv
        go_wp2_with fail
        refine bodyPost_ret (ret_cell3 rfl _ _ w.heap.size _ _ _ _ _ rfl (g1.put4 _ _ _ _)) rfl ?_
        refine ⟨⟨E, f, ?_, put4_rv HV.out HSZ.out _ _ _ _⟩, put4_below HBF.out _ (Nat.le_refl _) _ _ _ _⟩
        rw [HK.out]; rfl

set_option maxRecDepth 100000 in
set_option maxHeartbeats 8000000 in
theorem rdec_num42 (d : Nat) (hd : d ≤ 1000) (ih : RDecAt d) (l b : List UInt8) (w : World) (hc : l = 42 :: b) (hl : l.length ≤ 1048576) : Calls Tryd.prog 30 #[.string (bs l), .int .i64 ((d + 1 : Nat) : Int)] w fun e w' => RD3 w w' e l.length (Rsp.rd (d + 1) l.length l) ∧ Below w.heap.size w w' := by
  have hlp : 0 < l.length := by rw [hc]; simp
  have hcn : ∀ (p : Nat) (nn : Int) (w : World), p ≤ l.length → fits nn → Calls Tryd.prog 42 #[.string (bs l), .int .i64 nn, .int .i64 (p : Nat), .int .i64 ((d + 1 : Nat) : Int)] w fun e w' => RD3 w w' e l.length (Rsp.cnt (Rsp.rd d l.length) l.length 42 nn (l.drop p)) ∧ Below w.heap.size w w' := fun p nn w h1 h2 => rcnt_many42 d hd ih l b p nn w hc hl h1 h2
  have hnu := fun w => rnumber_any l w hl hlp
  obtain ⟨n, hn⟩ : ∃ n, l.length = n := ⟨_, rfl⟩
  have HN := Lib.hid hn
  have hsz : (bs l).size = n := by rw [bs_size]; exact hn
  have h0 : 0 < n := by rw [← hn, hc]; simp
  have hz : 0 < (bs l).size := by rw [hsz]; exact h0
  have hg0 : (bs l)[0]'hz = 42 := by rw [bs_get18 l 0 hz (by rw [hn]; exact h0)]; simp [hc]
  rw [hn] at hl hcn hnu ⊢
  have HZ := Lib.hid (zz_blk w #[.int .i64 0, .string ⟨#[]⟩, .int .i64 0, .slice none 0 0])
  have HB := Lib.hid (zz_below w #[.int .i64 0, .string ⟨#[]⟩, .int .i64 0, .slice none 0 0])
  obtain ⟨X, hX⟩ : ∃ X, Rsp.rd (d + 1) n l = X := ⟨_, rfl⟩
  rw [hX]
  obtain ⟨D, hD⟩ : ∃ D, d + 1 = D := ⟨_, rfl⟩
  rw [hD] at hcn ⊢
  obtain ⟨Y, hY⟩ : ∃ Y, Rsp.crl (l.drop 1) = Y := ⟨_, rfl⟩
  have hXY : X = Rsp.aft (Rsp.rd d n) n 42 Y := by
    rw [← hX, ← hY, hc, Rsp.rd_num (by decide)]
    show _ = Rsp.aft _ _ _ (Rsp.crl b)
    cases Rsp.crl b with
    | none => rfl
    | some q =>
      obtain ⟨s, t⟩ := q
      show _ = Rsp.aft2 _ _ _ t (Num.prs s)
      simp only
      cases Num.prs s <;> rfl
  have hYd : ∀ s t, Y = some (s, t) → t = l.drop (n - t.length) ∧ t.length ≤ n := fun s t h => by
    rw [h] at hY
    have h1 := Rsp.crl_len hY
    have h2 : l = 42 :: (s ++ 13 :: 10 :: t) := by rw [hc] at h1 ⊢; rw [← h1]; rfl
    have h3 : n = s.length + t.length + 3 := by rw [← hn, h2]; simp; omega
    refine ⟨?_, by omega⟩
    rw [show n - t.length = s.length + 3 by omega, h2]
    rw [show (42 :: (s ++ 13 :: 10 :: t)) = (42 :: s ++ [13, 10]) ++ t by simp, List.drop_append, List.drop_eq_nil_of_le (by simp)]
    simp
  rw [hY] at hnu
  have i1 : (0 : Int) < (n : Int) := by omega
  have i2 : ((n : Int) == 0) = false := by simp; omega
  have i3 : ¬ (D : Int) < 1 := by omega
  have HXY := Lib.hid hXY
  have HYD := Lib.hid hYd
  have HCN := Lib.hid hcn
  have HNU := Lib.hid hnu
  clear hc hX hY hD hn hXY hYd hcn hnu hlp ih
  rcases Y with _ | ⟨s, t⟩
  · have HR := Lib.hid (show X = none from HXY.out)
    have HNU2 : Hid (∀ w, Calls Tryd.prog 41 #[.string (bs l)] w fun e w' => e = .returned (.tuple #[.int .i64 0, .int .i64 0, .bool false]) ∧ w = w') := Lib.hid HNU.out
    clear HNU
    go_enter Tryd.func30, Tryd.ntmps30
    go_wp2_with fail
    refine (HNU2.out _).mono ?_
    rintro e w1 ⟨rfl, rfl⟩
    go_wp2_with fail
    refine bodyPost_ret (ret_cell3 rfl _ _ w.heap.size _ _ _ _ _ rfl HZ.out) rfl ?_
    rw [HR.out]
    exact ⟨rfl, HB.out⟩
  · obtain ⟨p, hp⟩ : ∃ p, n - t.length = p := ⟨_, rfl⟩
    obtain ⟨ht, htl⟩ := HYD.out s t rfl
    rw [hp] at ht
    obtain ⟨P, hP⟩ : ∃ P, Num.prs s = P := ⟨_, rfl⟩
    have HNU2 : Hid (∀ w, Calls Tryd.prog 41 #[.string (bs l)] w fun e w' => e = .returned (.tuple #[.int .i64 (P.getD 0), .int .i64 (p : Nat), .bool P.isSome]) ∧ w = w') := Lib.hid (by have := HNU.out; unfold nRet at this; simp only [hP, hp] at this; exact this)
    have hX2 : X = Rsp.aft2 (Rsp.rd d n) n 42 t P := by rw [HXY.out, ← hP]; rfl
    have hbd : ∀ m, P = some m → fits m := fun m h => Num.prs_bd (hP.trans h)
    have hpn : p ≤ n := by omega
    have HX2 := Lib.hid hX2
    have HBD := Lib.hid hbd
    have HTT := Lib.hid ht
    clear HNU ht htl hp hP hX2 hbd HXY HYD
    rcases P with _ | m
    · have HR := Lib.hid (show X = none from HX2.out)
      go_enter Tryd.func30, Tryd.ntmps30
      go_wp2_with fail
      refine (HNU2.out _).mono ?_
      rintro e w1 ⟨rfl, rfl⟩
      go_wp2_with fail
      refine bodyPost_ret (ret_cell3 rfl _ _ w.heap.size _ _ _ _ _ rfl HZ.out) rfl ?_
      rw [HR.out]
      exact ⟨rfl, HB.out⟩
    · have HC2 := Lib.hid (HCN.out p m ((w.alloc (.cells #[.int .i64 0, .string ⟨#[]⟩, .int .i64 0, .slice none 0 0] 27)).alloc (.cells #[.int .i64 0, .string ⟨#[]⟩, .int .i64 0, .slice none 0 0] 27)) hpn (HBD.out m rfl))
      have HR := Lib.hid (show X = Rsp.cnt (Rsp.rd d n) n 42 m (l.drop p) by rw [HX2.out, HTT.out]; rfl)
      rw [← HR.out] at HC2
      clear HR HX2 HCN HBD HTT
      rcases X with _ | ⟨r, u⟩
      · go_enter Tryd.func30, Tryd.ntmps30
        go_wp2_with fail
        refine (HNU2.out _).mono ?_
        rintro e w1 ⟨rfl, rfl⟩
        go_wp2_with fail
        refine HC2.out.mono ?_
        rintro e w1 ⟨rfl, hb1⟩
        have g1 := HZ.out.below hb1 HZ.out.lt
        have z0 := g1.frozen 0
        have z1 := g1.frozen 1
        have z2 := g1.frozen 2
        have z3 := g1.frozen 3
        have x1 := g1.x4
        have HBF := Lib.hid (HB.out.trans (hb1.mono HB.out.size))
        clear hb1
        go_wp2_with fail
        refine bodyPost_ret (ret_cell3 rfl _ _ w.heap.size _ _ _ _ _ rfl (g1.put4 _ _ _ _)) rfl ?_
        exact ⟨rfl, put4_below HBF.out _ (Nat.le_refl _) _ _ _ _⟩
      · have HC3 : Hid (Calls Tryd.prog 42 #[.string (bs l), .int .i64 m, .int .i64 (p : Nat), .int .i64 (D : Nat)] ((w.alloc (.cells #[.int .i64 0, .string ⟨#[]⟩, .int .i64 0, .slice none 0 0] 27)).alloc (.cells #[.int .i64 0, .string ⟨#[]⟩, .int .i64 0, .slice none 0 0] 27)) fun e w' => (∃ E f, e = .returned (.tuple #[.agg #[.int .i64 r.k, sv r.s, .int .i64 r.n, .slice E r.l.length f], .int .i64 ((n - u.length : Nat) : Int), .bool true]) ∧ RV w' (New ((w.alloc (.cells #[.int .i64 0, .string ⟨#[]⟩, .int .i64 0, .slice none 0 0] 27)).alloc (.cells #[.int .i64 0, .string ⟨#[]⟩, .int .i64 0, .slice none 0 0] 27)) w') r [.int .i64 r.k, sv r.s, .int .i64 r.n, .slice E r.l.length f]) ∧ Below (((w.alloc (.cells #[.int .i64 0, .string ⟨#[]⟩, .int .i64 0, .slice none 0 0] 27)).alloc (.cells #[.int .i64 0, .string ⟨#[]⟩, .int .i64 0, .slice none 0 0] 27))).heap.size ((w.alloc (.cells #[.int .i64 0, .string ⟨#[]⟩, .int .i64 0, .slice none 0 0] 27)).alloc (.cells #[.int .i64 0, .string ⟨#[]⟩, .int .i64 0, .slice none 0 0] 27)) w') := Lib.hid HC2.out
        obtain ⟨K, hK⟩ : ∃ K, n - u.length = K := ⟨_, rfl⟩
        have HK := Lib.hid hK
        rw [hK] at HC3
        clear HC2 hK
        go_enter Tryd.func30, Tryd.ntmps30
        go_wp2_with fail
        refine (HNU2.out _).mono ?_
        rintro e w1 ⟨rfl, rfl⟩
        go_wp2_with fail
        refine HC3.out.mono ?_
        rintro e w1 ⟨⟨E, f, rfl, hv⟩, hb1⟩
        have HV := Lib.hid hv
        have HSZ := Lib.hid (show w.heap.size < (((w.alloc (.cells #[.int .i64 0, .string ⟨#[]⟩, .int .i64 0, .slice none 0 0] 27)).alloc (.cells #[.int .i64 0, .string ⟨#[]⟩, .int .i64 0, .slice none 0 0] 27))).heap.size by rw [World.alloc_size, World.alloc_size]; omega)
        have g1 := HZ.out.below hb1 HZ.out.lt
        have z0 := g1.frozen 0
        have z1 := g1.frozen 1
        have z2 := g1.frozen 2
        have z3 := g1.frozen 3
        have x1 := g1.x4
        have HBF := Lib.hid (HB.out.trans (hb1.mono HB.out.size))
        clear hb1 hv
        go_wp2_with fail
        refine bodyPost_ret (ret_cell3 rfl _ _ w.heap.size _ _ _ _ _ rfl (g1.put4 _ _ _ _)) rfl ?_
        refine ⟨⟨E, f, ?_, put4_rv HV.out HSZ.out _ _ _ _⟩, put4_below HBF.out _ (Nat.le_refl _) _ _ _ _⟩
        rw [HK.out]; rfl

set_option maxRecDepth 100000 in
set_option maxHeartbeats 8000000 in
theorem rdec_num37 (d : Nat) (hd : d ≤ 1000) (ih : RDecAt d) (l b : List UInt8) (w : World) (hc : l = 37 :: b) (hl : l.length ≤ 1048576) : Calls Tryd.prog 30 #[.string (bs l), .int .i64 ((d + 1 : Nat) : Int)] w fun e w' => RD3 w w' e l.length (Rsp.rd (d + 1) l.length l) ∧ Below w.heap.size w w' := by
  have hlp : 0 < l.length := by rw [hc]; simp
  have hcn : ∀ (p : Nat) (nn : Int) (w : World), p ≤ l.length → fits nn → Calls Tryd.prog 42 #[.string (bs l), .int .i64 nn, .int .i64 (p : Nat), .int .i64 ((d + 1 : Nat) : Int)] w fun e w' => RD3 w w' e l.length (Rsp.cnt (Rsp.rd d l.length) l.length 37 nn (l.drop p)) ∧ Below w.heap.size w w' := fun p nn w h1 h2 => rcnt_many37 d hd ih l b p nn w hc hl h1 h2
  have hnu := fun w => rnumber_any l w hl hlp
  obtain ⟨n, hn⟩ : ∃ n, l.length = n := ⟨_, rfl⟩
  have HN := Lib.hid hn
  have hsz : (bs l).size = n := by rw [bs_size]; exact hn
  have h0 : 0 < n := by rw [← hn, hc]; simp
  have hz : 0 < (bs l).size := by rw [hsz]; exact h0
  have hg0 : (bs l)[0]'hz = 37 := by rw [bs_get18 l 0 hz (by rw [hn]; exact h0)]; simp [hc]
  rw [hn] at hl hcn hnu ⊢
  have HZ := Lib.hid (zz_blk w #[.int .i64 0, .string ⟨#[]⟩, .int .i64 0, .slice none 0 0])
  have HB := Lib.hid (zz_below w #[.int .i64 0, .string ⟨#[]⟩, .int .i64 0, .slice none 0 0])
  obtain ⟨X, hX⟩ : ∃ X, Rsp.rd (d + 1) n l = X := ⟨_, rfl⟩
  rw [hX]
  obtain ⟨D, hD⟩ : ∃ D, d + 1 = D := ⟨_, rfl⟩
  rw [hD] at hcn ⊢
  obtain ⟨Y, hY⟩ : ∃ Y, Rsp.crl (l.drop 1) = Y := ⟨_, rfl⟩
  have hXY : X = Rsp.aft (Rsp.rd d n) n 37 Y := by
    rw [← hX, ← hY, hc, Rsp.rd_num (by decide)]
    show _ = Rsp.aft _ _ _ (Rsp.crl b)
    cases Rsp.crl b with
    | none => rfl
    | some q =>
      obtain ⟨s, t⟩ := q
      show _ = Rsp.aft2 _ _ _ t (Num.prs s)
      simp only
      cases Num.prs s <;> rfl
  have hYd : ∀ s t, Y = some (s, t) → t = l.drop (n - t.length) ∧ t.length ≤ n := fun s t h => by
    rw [h] at hY
    have h1 := Rsp.crl_len hY
    have h2 : l = 37 :: (s ++ 13 :: 10 :: t) := by rw [hc] at h1 ⊢; rw [← h1]; rfl
    have h3 : n = s.length + t.length + 3 := by rw [← hn, h2]; simp; omega
    refine ⟨?_, by omega⟩
    rw [show n - t.length = s.length + 3 by omega, h2]
    rw [show (37 :: (s ++ 13 :: 10 :: t)) = (37 :: s ++ [13, 10]) ++ t by simp, List.drop_append, List.drop_eq_nil_of_le (by simp)]
    simp
  rw [hY] at hnu
  have i1 : (0 : Int) < (n : Int) := by omega
  have i2 : ((n : Int) == 0) = false := by simp; omega
  have i3 : ¬ (D : Int) < 1 := by omega
  have HXY := Lib.hid hXY
  have HYD := Lib.hid hYd
  have HCN := Lib.hid hcn
  have HNU := Lib.hid hnu
  clear hc hX hY hD hn hXY hYd hcn hnu hlp ih
  rcases Y with _ | ⟨s, t⟩
  · have HR := Lib.hid (show X = none from HXY.out)
    have HNU2 : Hid (∀ w, Calls Tryd.prog 41 #[.string (bs l)] w fun e w' => e = .returned (.tuple #[.int .i64 0, .int .i64 0, .bool false]) ∧ w = w') := Lib.hid HNU.out
    clear HNU
    go_enter Tryd.func30, Tryd.ntmps30
    go_wp2_with fail
    refine (HNU2.out _).mono ?_
    rintro e w1 ⟨rfl, rfl⟩
    go_wp2_with fail
    refine bodyPost_ret (ret_cell3 rfl _ _ w.heap.size _ _ _ _ _ rfl HZ.out) rfl ?_
    rw [HR.out]
    exact ⟨rfl, HB.out⟩
  · obtain ⟨p, hp⟩ : ∃ p, n - t.length = p := ⟨_, rfl⟩
    obtain ⟨ht, htl⟩ := HYD.out s t rfl
    rw [hp] at ht
    obtain ⟨P, hP⟩ : ∃ P, Num.prs s = P := ⟨_, rfl⟩
    have HNU2 : Hid (∀ w, Calls Tryd.prog 41 #[.string (bs l)] w fun e w' => e = .returned (.tuple #[.int .i64 (P.getD 0), .int .i64 (p : Nat), .bool P.isSome]) ∧ w = w') := Lib.hid (by have := HNU.out; unfold nRet at this; simp only [hP, hp] at this; exact this)
    have hX2 : X = Rsp.aft2 (Rsp.rd d n) n 37 t P := by rw [HXY.out, ← hP]; rfl
    have hbd : ∀ m, P = some m → fits m := fun m h => Num.prs_bd (hP.trans h)
    have hpn : p ≤ n := by omega
    have HX2 := Lib.hid hX2
    have HBD := Lib.hid hbd
    have HTT := Lib.hid ht
    clear HNU ht htl hp hP hX2 hbd HXY HYD
    rcases P with _ | m
    · have HR := Lib.hid (show X = none from HX2.out)
      go_enter Tryd.func30, Tryd.ntmps30
      go_wp2_with fail
      refine (HNU2.out _).mono ?_
      rintro e w1 ⟨rfl, rfl⟩
      go_wp2_with fail
      refine bodyPost_ret (ret_cell3 rfl _ _ w.heap.size _ _ _ _ _ rfl HZ.out) rfl ?_
      rw [HR.out]
      exact ⟨rfl, HB.out⟩
    · have HC2 := Lib.hid (HCN.out p m ((w.alloc (.cells #[.int .i64 0, .string ⟨#[]⟩, .int .i64 0, .slice none 0 0] 27)).alloc (.cells #[.int .i64 0, .string ⟨#[]⟩, .int .i64 0, .slice none 0 0] 27)) hpn (HBD.out m rfl))
      have HR := Lib.hid (show X = Rsp.cnt (Rsp.rd d n) n 37 m (l.drop p) by rw [HX2.out, HTT.out]; rfl)
      rw [← HR.out] at HC2
      clear HR HX2 HCN HBD HTT
      rcases X with _ | ⟨r, u⟩
      · go_enter Tryd.func30, Tryd.ntmps30
        go_wp2_with fail
        refine (HNU2.out _).mono ?_
        rintro e w1 ⟨rfl, rfl⟩
        go_wp2_with fail
        refine HC2.out.mono ?_
        rintro e w1 ⟨rfl, hb1⟩
        have g1 := HZ.out.below hb1 HZ.out.lt
        have z0 := g1.frozen 0
        have z1 := g1.frozen 1
        have z2 := g1.frozen 2
        have z3 := g1.frozen 3
        have x1 := g1.x4
        have HBF := Lib.hid (HB.out.trans (hb1.mono HB.out.size))
        clear hb1
        go_wp2_with fail
        refine bodyPost_ret (ret_cell3 rfl _ _ w.heap.size _ _ _ _ _ rfl (g1.put4 _ _ _ _)) rfl ?_
        exact ⟨rfl, put4_below HBF.out _ (Nat.le_refl _) _ _ _ _⟩
      · have HC3 : Hid (Calls Tryd.prog 42 #[.string (bs l), .int .i64 m, .int .i64 (p : Nat), .int .i64 (D : Nat)] ((w.alloc (.cells #[.int .i64 0, .string ⟨#[]⟩, .int .i64 0, .slice none 0 0] 27)).alloc (.cells #[.int .i64 0, .string ⟨#[]⟩, .int .i64 0, .slice none 0 0] 27)) fun e w' => (∃ E f, e = .returned (.tuple #[.agg #[.int .i64 r.k, sv r.s, .int .i64 r.n, .slice E r.l.length f], .int .i64 ((n - u.length : Nat) : Int), .bool true]) ∧ RV w' (New ((w.alloc (.cells #[.int .i64 0, .string ⟨#[]⟩, .int .i64 0, .slice none 0 0] 27)).alloc (.cells #[.int .i64 0, .string ⟨#[]⟩, .int .i64 0, .slice none 0 0] 27)) w') r [.int .i64 r.k, sv r.s, .int .i64 r.n, .slice E r.l.length f]) ∧ Below (((w.alloc (.cells #[.int .i64 0, .string ⟨#[]⟩, .int .i64 0, .slice none 0 0] 27)).alloc (.cells #[.int .i64 0, .string ⟨#[]⟩, .int .i64 0, .slice none 0 0] 27))).heap.size ((w.alloc (.cells #[.int .i64 0, .string ⟨#[]⟩, .int .i64 0, .slice none 0 0] 27)).alloc (.cells #[.int .i64 0, .string ⟨#[]⟩, .int .i64 0, .slice none 0 0] 27)) w') := Lib.hid HC2.out
        obtain ⟨K, hK⟩ : ∃ K, n - u.length = K := ⟨_, rfl⟩
        have HK := Lib.hid hK
        rw [hK] at HC3
        clear HC2 hK
        go_enter Tryd.func30, Tryd.ntmps30
        go_wp2_with fail
        refine (HNU2.out _).mono ?_
        rintro e w1 ⟨rfl, rfl⟩
        go_wp2_with fail
        refine HC3.out.mono ?_
        rintro e w1 ⟨⟨E, f, rfl, hv⟩, hb1⟩
        have HV := Lib.hid hv
        have HSZ := Lib.hid (show w.heap.size < (((w.alloc (.cells #[.int .i64 0, .string ⟨#[]⟩, .int .i64 0, .slice none 0 0] 27)).alloc (.cells #[.int .i64 0, .string ⟨#[]⟩, .int .i64 0, .slice none 0 0] 27))).heap.size by rw [World.alloc_size, World.alloc_size]; omega)
        have g1 := HZ.out.below hb1 HZ.out.lt
        have z0 := g1.frozen 0
        have z1 := g1.frozen 1
        have z2 := g1.frozen 2
        have z3 := g1.frozen 3
        have x1 := g1.x4
        have HBF := Lib.hid (HB.out.trans (hb1.mono HB.out.size))
        clear hb1 hv
        go_wp2_with fail
        refine bodyPost_ret (ret_cell3 rfl _ _ w.heap.size _ _ _ _ _ rfl (g1.put4 _ _ _ _)) rfl ?_
        refine ⟨⟨E, f, ?_, put4_rv HV.out HSZ.out _ _ _ _⟩, put4_below HBF.out _ (Nat.le_refl _) _ _ _ _⟩
        rw [HK.out]; rfl

set_option maxRecDepth 100000 in
set_option maxHeartbeats 8000000 in
theorem rdec_num126 (d : Nat) (hd : d ≤ 1000) (ih : RDecAt d) (l b : List UInt8) (w : World) (hc : l = 126 :: b) (hl : l.length ≤ 1048576) : Calls Tryd.prog 30 #[.string (bs l), .int .i64 ((d + 1 : Nat) : Int)] w fun e w' => RD3 w w' e l.length (Rsp.rd (d + 1) l.length l) ∧ Below w.heap.size w w' := by
  have hlp : 0 < l.length := by rw [hc]; simp
  have hcn : ∀ (p : Nat) (nn : Int) (w : World), p ≤ l.length → fits nn → Calls Tryd.prog 42 #[.string (bs l), .int .i64 nn, .int .i64 (p : Nat), .int .i64 ((d + 1 : Nat) : Int)] w fun e w' => RD3 w w' e l.length (Rsp.cnt (Rsp.rd d l.length) l.length 126 nn (l.drop p)) ∧ Below w.heap.size w w' := fun p nn w h1 h2 => rcnt_many126 d hd ih l b p nn w hc hl h1 h2
  have hnu := fun w => rnumber_any l w hl hlp
  obtain ⟨n, hn⟩ : ∃ n, l.length = n := ⟨_, rfl⟩
  have HN := Lib.hid hn
  have hsz : (bs l).size = n := by rw [bs_size]; exact hn
  have h0 : 0 < n := by rw [← hn, hc]; simp
  have hz : 0 < (bs l).size := by rw [hsz]; exact h0
  have hg0 : (bs l)[0]'hz = 126 := by rw [bs_get18 l 0 hz (by rw [hn]; exact h0)]; simp [hc]
  rw [hn] at hl hcn hnu ⊢
  have HZ := Lib.hid (zz_blk w #[.int .i64 0, .string ⟨#[]⟩, .int .i64 0, .slice none 0 0])
  have HB := Lib.hid (zz_below w #[.int .i64 0, .string ⟨#[]⟩, .int .i64 0, .slice none 0 0])
  obtain ⟨X, hX⟩ : ∃ X, Rsp.rd (d + 1) n l = X := ⟨_, rfl⟩
  rw [hX]
  obtain ⟨D, hD⟩ : ∃ D, d + 1 = D := ⟨_, rfl⟩
  rw [hD] at hcn ⊢
  obtain ⟨Y, hY⟩ : ∃ Y, Rsp.crl (l.drop 1) = Y := ⟨_, rfl⟩
  have hXY : X = Rsp.aft (Rsp.rd d n) n 126 Y := by
    rw [← hX, ← hY, hc, Rsp.rd_num (by decide)]
    show _ = Rsp.aft _ _ _ (Rsp.crl b)
    cases Rsp.crl b with
    | none => rfl
    | some q =>
      obtain ⟨s, t⟩ := q
      show _ = Rsp.aft2 _ _ _ t (Num.prs s)
      simp only
      cases Num.prs s <;> rfl
  have hYd : ∀ s t, Y = some (s, t) → t = l.drop (n - t.length) ∧ t.length ≤ n := fun s t h => by
    rw [h] at hY
    have h1 := Rsp.crl_len hY
    have h2 : l = 126 :: (s ++ 13 :: 10 :: t) := by rw [hc] at h1 ⊢; rw [← h1]; rfl
    have h3 : n = s.length + t.length + 3 := by rw [← hn, h2]; simp; omega
    refine ⟨?_, by omega⟩
    rw [show n - t.length = s.length + 3 by omega, h2]
    rw [show (126 :: (s ++ 13 :: 10 :: t)) = (126 :: s ++ [13, 10]) ++ t by simp, List.drop_append, List.drop_eq_nil_of_le (by simp)]
    simp
  rw [hY] at hnu
  have i1 : (0 : Int) < (n : Int) := by omega
  have i2 : ((n : Int) == 0) = false := by simp; omega
  have i3 : ¬ (D : Int) < 1 := by omega
  have HXY := Lib.hid hXY
  have HYD := Lib.hid hYd
  have HCN := Lib.hid hcn
  have HNU := Lib.hid hnu
  clear hc hX hY hD hn hXY hYd hcn hnu hlp ih
  rcases Y with _ | ⟨s, t⟩
  · have HR := Lib.hid (show X = none from HXY.out)
    have HNU2 : Hid (∀ w, Calls Tryd.prog 41 #[.string (bs l)] w fun e w' => e = .returned (.tuple #[.int .i64 0, .int .i64 0, .bool false]) ∧ w = w') := Lib.hid HNU.out
    clear HNU
    go_enter Tryd.func30, Tryd.ntmps30
    go_wp2_with fail
    refine (HNU2.out _).mono ?_
    rintro e w1 ⟨rfl, rfl⟩
    go_wp2_with fail
    refine bodyPost_ret (ret_cell3 rfl _ _ w.heap.size _ _ _ _ _ rfl HZ.out) rfl ?_
    rw [HR.out]
    exact ⟨rfl, HB.out⟩
  · obtain ⟨p, hp⟩ : ∃ p, n - t.length = p := ⟨_, rfl⟩
    obtain ⟨ht, htl⟩ := HYD.out s t rfl
    rw [hp] at ht
    obtain ⟨P, hP⟩ : ∃ P, Num.prs s = P := ⟨_, rfl⟩
    have HNU2 : Hid (∀ w, Calls Tryd.prog 41 #[.string (bs l)] w fun e w' => e = .returned (.tuple #[.int .i64 (P.getD 0), .int .i64 (p : Nat), .bool P.isSome]) ∧ w = w') := Lib.hid (by have := HNU.out; unfold nRet at this; simp only [hP, hp] at this; exact this)
    have hX2 : X = Rsp.aft2 (Rsp.rd d n) n 126 t P := by rw [HXY.out, ← hP]; rfl
    have hbd : ∀ m, P = some m → fits m := fun m h => Num.prs_bd (hP.trans h)
    have hpn : p ≤ n := by omega
    have HX2 := Lib.hid hX2
    have HBD := Lib.hid hbd
    have HTT := Lib.hid ht
    clear HNU ht htl hp hP hX2 hbd HXY HYD
    rcases P with _ | m
    · have HR := Lib.hid (show X = none from HX2.out)
      go_enter Tryd.func30, Tryd.ntmps30
      go_wp2_with fail
      refine (HNU2.out _).mono ?_
      rintro e w1 ⟨rfl, rfl⟩
      go_wp2_with fail
      refine bodyPost_ret (ret_cell3 rfl _ _ w.heap.size _ _ _ _ _ rfl HZ.out) rfl ?_
      rw [HR.out]
      exact ⟨rfl, HB.out⟩
    · have HC2 := Lib.hid (HCN.out p m ((w.alloc (.cells #[.int .i64 0, .string ⟨#[]⟩, .int .i64 0, .slice none 0 0] 27)).alloc (.cells #[.int .i64 0, .string ⟨#[]⟩, .int .i64 0, .slice none 0 0] 27)) hpn (HBD.out m rfl))
      have HR := Lib.hid (show X = Rsp.cnt (Rsp.rd d n) n 126 m (l.drop p) by rw [HX2.out, HTT.out]; rfl)
      rw [← HR.out] at HC2
      clear HR HX2 HCN HBD HTT
      rcases X with _ | ⟨r, u⟩
      · go_enter Tryd.func30, Tryd.ntmps30
        go_wp2_with fail
        refine (HNU2.out _).mono ?_
        rintro e w1 ⟨rfl, rfl⟩
        go_wp2_with fail
        refine HC2.out.mono ?_
        rintro e w1 ⟨rfl, hb1⟩
        have g1 := HZ.out.below hb1 HZ.out.lt
        have z0 := g1.frozen 0
        have z1 := g1.frozen 1
        have z2 := g1.frozen 2
        have z3 := g1.frozen 3
        have x1 := g1.x4
        have HBF := Lib.hid (HB.out.trans (hb1.mono HB.out.size))
        clear hb1
        go_wp2_with fail
        refine bodyPost_ret (ret_cell3 rfl _ _ w.heap.size _ _ _ _ _ rfl (g1.put4 _ _ _ _)) rfl ?_
        exact ⟨rfl, put4_below HBF.out _ (Nat.le_refl _) _ _ _ _⟩
      · have HC3 : Hid (Calls Tryd.prog 42 #[.string (bs l), .int .i64 m, .int .i64 (p : Nat), .int .i64 (D : Nat)] ((w.alloc (.cells #[.int .i64 0, .string ⟨#[]⟩, .int .i64 0, .slice none 0 0] 27)).alloc (.cells #[.int .i64 0, .string ⟨#[]⟩, .int .i64 0, .slice none 0 0] 27)) fun e w' => (∃ E f, e = .returned (.tuple #[.agg #[.int .i64 r.k, sv r.s, .int .i64 r.n, .slice E r.l.length f], .int .i64 ((n - u.length : Nat) : Int), .bool true]) ∧ RV w' (New ((w.alloc (.cells #[.int .i64 0, .string ⟨#[]⟩, .int .i64 0, .slice none 0 0] 27)).alloc (.cells #[.int .i64 0, .string ⟨#[]⟩, .int .i64 0, .slice none 0 0] 27)) w') r [.int .i64 r.k, sv r.s, .int .i64 r.n, .slice E r.l.length f]) ∧ Below (((w.alloc (.cells #[.int .i64 0, .string ⟨#[]⟩, .int .i64 0, .slice none 0 0] 27)).alloc (.cells #[.int .i64 0, .string ⟨#[]⟩, .int .i64 0, .slice none 0 0] 27))).heap.size ((w.alloc (.cells #[.int .i64 0, .string ⟨#[]⟩, .int .i64 0, .slice none 0 0] 27)).alloc (.cells #[.int .i64 0, .string ⟨#[]⟩, .int .i64 0, .slice none 0 0] 27)) w') := Lib.hid HC2.out
        obtain ⟨K, hK⟩ : ∃ K, n - u.length = K := ⟨_, rfl⟩
        have HK := Lib.hid hK
        rw [hK] at HC3
        clear HC2 hK
        go_enter Tryd.func30, Tryd.ntmps30
        go_wp2_with fail
        refine (HNU2.out _).mono ?_
        rintro e w1 ⟨rfl, rfl⟩
        go_wp2_with fail
        refine HC3.out.mono ?_
        rintro e w1 ⟨⟨E, f, rfl, hv⟩, hb1⟩
        have HV := Lib.hid hv
        have HSZ := Lib.hid (show w.heap.size < (((w.alloc (.cells #[.int .i64 0, .string ⟨#[]⟩, .int .i64 0, .slice none 0 0] 27)).alloc (.cells #[.int .i64 0, .string ⟨#[]⟩, .int .i64 0, .slice none 0 0] 27))).heap.size by rw [World.alloc_size, World.alloc_size]; omega)
        have g1 := HZ.out.below hb1 HZ.out.lt
        have z0 := g1.frozen 0
        have z1 := g1.frozen 1
        have z2 := g1.frozen 2
        have z3 := g1.frozen 3
        have x1 := g1.x4
        have HBF := Lib.hid (HB.out.trans (hb1.mono HB.out.size))
        clear hb1 hv
        go_wp2_with fail
        refine bodyPost_ret (ret_cell3 rfl _ _ w.heap.size _ _ _ _ _ rfl (g1.put4 _ _ _ _)) rfl ?_
        refine ⟨⟨E, f, ?_, put4_rv HV.out HSZ.out _ _ _ _⟩, put4_below HBF.out _ (Nat.le_refl _) _ _ _ _⟩
        rw [HK.out]; rfl

/-- The reference's Decode, at any levels. -/
theorem rdec_all : ∀ d, d ≤ 1000 → RDecAt d := by
  intro d
  induction d with
  | zero =>
    intro _ l w hl
    rcases l with _ | ⟨c, b⟩
    · exact rdec_nil 0 w
    · exact rdec_zero (c :: b) w (by simp) hl
  | succ d ih =>
    intro hd l w hl
    have ihd := ih (by omega)
    have hd' : d ≤ 1000 := by omega
    rcases l with _ | ⟨c, b⟩
    · exact rdec_nil (d + 1) w
    by_cases h1 : c = 43
    · subst h1; exact rdec_sign43 d _ b w rfl hl
    by_cases h2 : c = 45
    · subst h2; exact rdec_sign45 d _ b w rfl hl
    by_cases h3 : c = 95
    · subst h3; exact rdec_null d _ b w rfl hl
    by_cases h4 : c = 58
    · subst h4; exact rdec_num58 d hd' ihd _ b w rfl hl
    by_cases h5 : c = 36
    · subst h5; exact rdec_num36 d hd' ihd _ b w rfl hl
    by_cases h6 : c = 42
    · subst h6; exact rdec_num42 d hd' ihd _ b w rfl hl
    by_cases h7 : c = 37
    · subst h7; exact rdec_num37 d hd' ihd _ b w rfl hl
    by_cases h8 : c = 126
    · subst h8; exact rdec_num126 d hd' ihd _ b w rfl hl
    exact rdec_other d c _ b w rfl hl h1 h2 h3 h4 h5 h6 h7 h8
end Go.Proofs.YtjdnpgdedbegfaaDoor
