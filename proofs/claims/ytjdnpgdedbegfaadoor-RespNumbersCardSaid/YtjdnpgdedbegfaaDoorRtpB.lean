/- The walk of the law RespRows. -/
import Derived.Test.YtjdnpgdedbegfaaDoorRtpA
namespace Go.Proofs.YtjdnpgdedbegfaaDoor
open Go.RowKit Go.Shelf
set_option linter.unusedVariables false

theorem intinfo : (Tryd.prog.info? 3).map (fun i => (i.zero, i.size, i.bytes)) = some (some (.int .i64 0), 1, 8) := by kernel_rfl
set_option maxHeartbeats 400000 in
theorem within_idx (n hi : Int) (w : World) (hn : 0 ≤ n ∧ n ≤ 1000) (hh : 0 ≤ hi ∧ hi < 9223372036854775807) :
    Calls Tryd.prog 12 #[.int .i64 n, .int .i64 0, .int .i64 hi] w fun e w' => ∃ z : Nat, (z : Int) ≤ hi ∧ e = .returned (.int .i64 z) ∧ w = w' := by
  obtain ⟨hn1, hn2⟩ := hn
  obtain ⟨hh1, hh2⟩ := hh
  have t1 : 0 ≤ n % (hi + 1) := Int.emod_nonneg _ (by omega)
  have t2 : n % (hi + 1) < hi + 1 := Int.emod_lt_of_pos _ (by omega)
  obtain ⟨z, hz⟩ : ∃ z : Nat, n % (hi + 1) = (z : Int) := ⟨(n % (hi + 1)).toNat, by omega⟩
  have HZ := Lib.hid hz
  have hzh : (z : Int) ≤ hi := by omega
  have h0' : ¬ n % (hi + 1) < 0 := by omega
  clear hz
  go_enter Tryd.func12, Tryd.ntmps12
  go_wp2
  go_ret
  exact ⟨z, hzh, ret_int HZ.out, rfl⟩
theorem own_own_ne {w : World} {B1 B2 e1 e2 s1 s2 n1 n2 : Nat} {v1 v2 : Value} {xs1 xs2 : List Value} (h1 : Own w B1 e1 s1 v1 n1 xs1) (h2 : Own w B2 e2 s2 v2 n2 xs2) (hne : e1 ≠ e2) : v2.ownBlock = none ∨ v2.ownBlock ≠ v1.ownBlock := by
  rcases h2.2 with ⟨rfl, _⟩ | ⟨g, cap, cur, fz, rfl, _, hg, _⟩
  · exact .inl rfl
  · refine .inr (fun e => ?_)
    rcases h1.2 with ⟨rfl, _⟩ | ⟨g', cap', cur', fz', rfl, _, hg', _⟩
    · cases e
    · simp only [Value.ownBlock, Option.some.injEq] at e
      have e : g = g' := by simpa using e
      subst e
      rw [hg] at hg'
      simp at hg'
      exact hne hg'.2.1.symm
/-- The ends of a row of replies. -/
def endsv (rs : List Rep) : List Value := (List.range (rs.length + 1)).map fun j => Value.int .i64 (upto rs j : Nat)
theorem upto_app (rs : List Rep) (r : Rep) (j : Nat) (h : j ≤ rs.length) : upto (rs ++ [r]) j = upto rs j := by
  unfold upto; rw [List.take_append_of_le_length h]
theorem endsv_app (rs : List Rep) (r : Rep) : endsv (rs ++ [r]) = endsv rs ++ [.int .i64 (upto (rs ++ [r]) (rs.length + 1) : Nat)] := by
  unfold endsv
  rw [List.length_append, List.length_singleton, List.range_succ (n := rs.length + 1), List.map_append]
  congr 1
  exact List.map_congr_left fun j hj => by rw [upto_app rs r j (by have := List.mem_range.1 hj; omega)]
theorem endsv_at (rs : List Rep) (j : Nat) (h : j ≤ rs.length) : (endsv rs)[j]? = some (.int .i64 (upto rs j : Nat)) := by
  unfold endsv
  rw [List.getElem?_map, List.getElem?_range (by omega)]; rfl
theorem upto_len (rs : List Rep) (r : Rep) : upto (rs ++ [r]) (rs.length + 1) = (((rs ++ [r]).map (enc true)).flatten).length := by
  have := upto_all (rs ++ [r])
  rwa [List.length_append, List.length_singleton] at this
theorem rows_size : ∀ (rs : List Rep), (∀ r ∈ rs, okM 3 r ∧ okR 4 r) → ((rs.map (enc true)).flatten).length ≤ rs.length * 4000
  | [], h => by simp
  | r :: rs, h => by
    have h1 := enc_size true 3 r (h r (by simp)).1
    have h2 := rows_size rs (fun r hr => h r (by simp [hr]))
    have h3 : sz 3 ≤ 4000 := by decide
    simp only [List.map_cons, List.flatten_cons, List.length_append, List.length_cons, Nat.add_mul, Nat.one_mul]; omega
theorem ownInts {w : World} {B n : Nat} {v : Value} {xs : List Value} (h : Own w B 3 1 v (n + 1) xs) : ∃ g c, v = .slice (some ⟨g, 0, none⟩) (n + 1) c ∧ B ≤ g ∧ g < w.heap.size ∧ n + 1 ≤ c ∧ c ≤ maxLen ∧ ∀ j, j < n + 1 → w.cell? ⟨g, j, none⟩ = xs[j]? := by
  rcases h.form with ⟨h1, h2⟩ | ⟨g, cap, h1, h2, h3, h4, h5⟩
  · omega
  · subst h1
    exact ⟨g, cap, rfl, h2, h3, h4, h5, fun j hj => h.cellAt j (by omega)⟩

set_option maxRecDepth 100000 in
set_option maxHeartbeats 8000000 in
theorem respRows_walk (v : Value) (m : Nat) (n cut : Int) (w : World) (hv : ArgN w v m) (hn : fits n) (hcut : fits cut) (hmy : My w)  :
    Calls Tryd.prog 4 #[v, .int .i64 n, .int .i64 cut] w fun e w' => e = .returned (.bool true) ∧ Below w.heap.size w w' := by
  have Hv := Lib.hid hv
  have Hmy := Lib.hid hmy
  obtain ⟨A, c, rfl, hm, _⟩ := hv
  unfold maxLen at hm
  have hoe0 : Own (w.alloc (.cells #[.int .i64 0] 3)) w.heap.size 3 1 (.slice (some ⟨w.heap.size, 0, none⟩) 1 1) 1 [.int .i64 0] := Own.lit w #[.int .i64 0] 1 (Nat.le_refl _) (by decide) rfl
  have Hoe0 := Lib.hid hoe0
  have Hb0 := Lib.hid (show Below w.heap.size w (w.alloc (.cells #[.int .i64 0] 3)) from (Below.refl _ _).alloc (Nat.le_refl _) _)
  clear hmy hoe0
  go_enter Tryd.func4, Tryd.ntmps4
  go_wp2_with fail
  obtain ⟨w1, hw1⟩ : ∃ w1, w.alloc (.cells #[.int .i64 0] 3) = w1 := ⟨_, rfl⟩
  rw [hw1] at Hoe0 Hb0 ⊢
  clear hw1
  go_loopw [9, 7, 8] (fun x b en wr => ∃ M rs F, x = .int .i64 (M : Nat) ∧ M ≤ 6 ∧ Hid (rs.length = M) ∧ Hid (∀ r ∈ rs, okM 3 r ∧ okR 4 r) ∧ Hid ((rs.map (enc true)).flatten = F) ∧ OB wr w.heap.size 5 b F ∧ Own wr w.heap.size 3 1 en (M + 1) (endsv rs) ∧ Below w.heap.size w wr) (fun x _ _ _ => 7 - (intOf x).toNat)
  case atStart => exact ⟨0, [], [], rfl, by omega, Lib.hid rfl, Lib.hid (by simp), Lib.hid rfl, OB.nil _ _ _, Hoe0.out, Hb0.out⟩
  case round =>
    obtain ⟨M, rs, F, rfl, hM6, HM, Hrs, HF, hob, hoe, hbel⟩ := hrel
    obtain ⟨LF, hLF⟩ : ∃ LF, F.length = LF := ⟨_, rfl⟩
    have hob1 := hob
    unfold OB at hob1
    rw [hLF] at hob1
    obtain ⟨Ab, cb, rfl⟩ := hob1.sliceForm
    obtain ⟨Ae, ce0, rfl⟩ := hoe.sliceForm
    go_wp2_with fail
    refine (within_nat n 6 _ hn (by omega) (by omega)).mono ?_
    rintro e w' ⟨z, hz, rfl, rfl⟩
    rcases Nat.lt_or_ge M z with hiz | hiz
    · have hiz' : (M : Int) < (z : Int) := by omega
      by_cases hm0 : m = 0
      · subst hm0
        have hrs := Hrs.out
        have hF := rows_size rs hrs
        rw [HF.out, hLF, HM.out] at hF
        obtain ⟨ge, ce, hve, hge1, hge2, hce1, hce2, hcells⟩ := ownInts hoe
        injection hve with hv1 hv2 hv3
        subst hv1; subst hv3
        clear hv2
        have hce3 : ce0 ≤ 9223372036854775807 := by unfold maxLen at hce2; exact hce2
        have HLF := Lib.hid hLF
        have hbsl := hob.bsl
        have hcb := Own.caps hob1
        obtain ⟨hcb1, hcb2⟩ := hcb
        have hcb3 : cb ≤ 9223372036854775807 := by unfold maxLen at hcb2; exact hcb2
        have Hcells := Lib.hid hcells
        clear hLF hob hoe hrs hob1 hcells
        go_wp2_with fail
        refine (within_nat cut (LF : Nat) _ hcut (by omega) (by omega)).mono ?_
        rintro e w' ⟨k, hk, rfl, rfl⟩
        have hkL : k ≤ LF := by omega
        go_wp2_with fail
        go_loopw [13, 14] (fun x y wx => ∃ t i, x = .int .i64 (t : Nat) ∧ y = .int .i64 (i : Nat) ∧ i ≤ M + 1 ∧ t ≤ M ∧ Hid (upto rs t ≤ k) ∧ Hid (∀ j, j < i → upto rs j ≤ k → j ≤ t) ∧ Hid (wx = wr)) (fun _ y _ => M + 1 - (intOf y).toNat)
        case atStart => exact ⟨0, 0, rfl, rfl, by omega, by omega, Lib.hid (by simp [upto]), Lib.hid (fun j hj => by omega), Lib.hid rfl⟩
        case round =>
          obtain ⟨t, i, rfl, rfl, hiM, htM, HU, HA, HW⟩ := hrel
          obtain rfl := HW.out
          clear HW
          rcases Nat.lt_or_ge i (M + 1) with hlt | hge
          · have hlt' : (i : Int) < (M : Int) + 1 := by omega
            have hci : _ = some (Value.int .i64 (upto rs i : Nat)) := (Hcells.out i hlt).trans (endsv_at rs i (by rw [HM.out]; omega))
            obtain ⟨u, hu⟩ : ∃ u, upto rs i = u := ⟨_, rfl⟩
            have HUi := Lib.hid hu
            rw [hu] at hci
            clear hu
            by_cases huk : u ≤ k
            · have huk' : (u : Int) ≤ (k : Int) := by omega
              have HU2 := Lib.hid (show upto rs i ≤ k by rw [HUi.out]; exact huk)
              have HA2 := Lib.hid (show ∀ j, j < i + 1 → upto rs j ≤ k → j ≤ i from fun j hj _ => by omega)
              go_wp2_with fail
              go_roundw
              case rel => exact ⟨i, i + 1, by go_num, by go_num, by omega, by omega, HU2, HA2, Lib.hid (by first | trivial | rfl)⟩
              case measure => simp [intOf]; omega
            · have huk' : ¬ (u : Int) ≤ (k : Int) := by omega
              have HA2 := Lib.hid (show ∀ j, j < i + 1 → upto rs j ≤ k → j ≤ t from fun j hj hh => by
                rcases Nat.lt_or_ge j i with h | h
                · exact HA.out j h hh
                · have : j = i := by omega
                  subst this
                  rw [HUi.out] at hh; exact absurd hh huk)
              go_wp2_with fail
              go_roundw
              case rel => exact ⟨t, i + 1, by go_num, by go_num, by omega, htM, HU, HA2, Lib.hid (by first | trivial | rfl)⟩
              case measure => simp [intOf]; omega
          · have hAll := all_any _ _ wr (hbsl.take_ k hkL) (by rw [List.length_take]; omega)
            have HC := Lib.hid (fun (acc : List Rep) (q : Nat) (h : AllOf (F.take k) acc q) => all_cut rs k t (fun r hr => okR_mono 4 33 r (by omega) (Hrs.out r hr).2) (by rw [HF.out, HLF.out]; omega) (by rw [HM.out]; exact htM) (by rw [HF.out, HLF.out]; exact hkL) HU.out (fun h => by
              rcases Nat.lt_or_ge k (upto rs (t + 1)) with h' | h'
              · exact h'
              · have := HA.out (t + 1) (by rw [HM.out] at h; omega) h'; omega) (by rw [HF.out]; exact h))
            have hct : _ = some (Value.int .i64 (upto rs t : Nat)) := (Hcells.out t (by omega)).trans (endsv_at rs t (by rw [HM.out]; exact htM))
            have hk0 : (0 : Int) ≤ (k : Int) := by omega
            have hkc : (k : Int) ≤ (cb : Int) := by omega
            have htc : (t : Int) < (M : Int) + 1 := by omega
            have Hct := Lib.hid hct
            clear hct
            go_wp2_with fail
            refine hAll.mono ?_
            rintro e w2 ⟨⟨va, acc, q, rfl, hO, hall⟩, hb2⟩
            obtain ⟨ha1, ha2⟩ := HC.out acc q hall
            obtain ⟨Aa, ca, rfl⟩ := hO.form
            rw [ha1]
            subst ha2
            have hct2 : w2.cell? ⟨ge, t, none⟩ = some (Value.int .i64 (upto rs t : Nat)) := (hb2.cell (p := ⟨ge, t, none⟩) hge2).trans Hct.out
            obtain ⟨u, hu⟩ : ∃ u, upto rs t = u := ⟨_, rfl⟩
            rw [hu] at hct2 ⊢
            clear hu ha1 hO
            go_wp2_with fail
            refine (known_any _ ((Hmy.out.below_ hbel).below_ hb2)).mono ?_
            rintro e w3 ⟨rfl, hb3⟩
            go_wp2_with fail
            go_ret
            exact ⟨rfl, (hbel.trans (hb2.mono hbel.size)).trans (hb3.mono (Nat.le_trans hbel.size hb2.size))⟩
      · have hM3 : M ≤ 5 := by omega
        have hm1 : 0 ≤ (m : Int) - 1 := by omega
        have hme : ((m : Int) == 0) = false := by simpa using hm0
        have hsz := hbel.size
        have hne := own_own_ne hob1 hoe (by decide)
        have hbF : LF ≤ 24000 := by
          have := rows_size rs Hrs.out
          rw [HF.out, hLF, HM.out] at this; omega
        have HLF := Lib.hid hLF
        clear hob hLF
        go_wp2_with fail
        refine (within_idx _ _ _ ⟨by omega, by omega⟩ ⟨by omega, by omega⟩).mono ?_
        rintro e w' ⟨q, hq, rfl, rfl⟩
        have hMd := made_any 3 (by omega) wr _ m q (Hv.out.below hbel) (by omega)
        rw [show (6 - ((3 : Nat) : Int)) = 3 by omega] at hMd
        go_wp2_with fail
        refine hMd.mono ?_
        rintro e w2 ⟨⟨r, E, f, q', rfl, hokr, hrv, hq'⟩, hb2⟩
        have hb3 := hb2.alloc hb2.size (.cells #[.int .i64 r.k, .string (bs r.s), .int .i64 r.n, .slice E r.l.length f] 27)
        have hP := plain_any _ r (Nat.le_refl _) 3 _ _ hokr (hrv.liv.below ((Below.refl _ _).alloc (Nat.le_refl _) (.cells #[.int .i64 r.k, .string (bs r.s), .int .i64 r.n, .slice E r.l.length f] 27)))
        have Hb3 := Lib.hid hb3
        clear hb3 hrv
        go_wp2_with fail
        refine hP.mono ?_
        rintro e w3 ⟨⟨E2, f2, rfl, hv3⟩, hb4⟩
        obtain ⟨hpM, hpR⟩ := pln_ok 3 r hokr
        have hbx := Hb3.out.trans (hb4.mono Hb3.out.size)
        have hE := encode_any r.pln 3 true w3 _ hv3.liv ((Hmy.out.below_ hbel).below_ hbx) rfl (by unfold fits; omega) (enc_fits true (by omega) hpM)
        have hXl := enc_size true 3 r.pln hpM
        have hs3 : sz 3 ≤ 4000 := by decide
        obtain ⟨X, hX⟩ : ∃ X, enc true r.pln = X := ⟨_, rfl⟩
        have HX := Lib.hid hX
        rw [hX] at hE hXl
        clear hX hv3
        go_wp2_with fail
        refine hE.mono ?_
        rintro e w4 ⟨v5, rfl, hO5, hb5⟩
        have hby := hbx.trans (hb5.mono hbx.size)
        have hob4 := hob1.below_ hby
        have hoe4 := hoe.below_ hby
        have hne4 := own_own_ne hob4 hoe4 (by decide)
        have hw4 : w.heap.size ≤ w4.heap.size := Nat.le_trans hbel.size hby.size
        obtain ⟨XL, hXL⟩ : ∃ XL, X.length = XL := ⟨_, rfl⟩
        have hO5' := hO5
        unfold OB at hO5'
        rw [hXL] at hO5'
        obtain ⟨A5, c5, rfl⟩ := hO5'.sliceForm
        have HXL := Lib.hid hXL
        rw [hXL] at hXl
        clear hO5 hXL
        obtain ⟨iu, hiu, hu0, hu1, hu2⟩ := info_parts u8info
        obtain ⟨it, hit, ht0, ht1, ht2⟩ := info_parts intinfo
        go_wp2_with (first
          | (at_builtin; refine wpList_append_Own _ rfl (.tmp 38) (.tmp 41) _ _ rfl w.heap.size 5 iu _ 1 1 Tryd.underlying23 hiu hu0 hu1 hu2 rfl (.slice Ab LF cb) LF (bv F) rfl hob4 _ XL (bv X) rfl (Src.own hO5' Tryd.underlying23 (bv_one X) (by decide)) (by unfold maxLen; omega) (by omega) hw4 ?_; intro v6 w6 hO6 hg6 hat6; obtain ⟨A6, c6, rfl⟩ := hO6.sliceForm; have hoe6 := hoe4.kept hg6 (hne4); have hw6 : w.heap.size ≤ w6.heap.size := Nat.le_trans hw4 hg6.size; have hoe7 := hoe6.alloc (.cells #[.int .i64 ((LF : Int) + (XL : Int))] 3); have hlit : Own (w6.alloc (.cells #[.int .i64 ((LF : Int) + (XL : Int))] 3)) w.heap.size 3 1 (.slice (some ⟨w6.heap.size, 0, none⟩) 1 1) 1 [.int .i64 ((LF : Int) + (XL : Int))] := Own.lit w6 #[.int .i64 ((LF : Int) + (XL : Int))] 1 hw6 (by decide) rfl)
          | (at_builtin; refine wpList_append_Own _ rfl (.tmp 43) (.tmp 46) _ _ rfl w.heap.size 3 it _ 1 8 Tryd.underlying34 hit ht0 ht1 ht2 rfl (.slice Ae (M + 1) ce0) (M + 1) (endsv rs) rfl hoe7 _ 1 [.int .i64 ((LF : Int) + (XL : Int))] rfl (Src.own hlit Tryd.underlying34 (by intro v hv; simp at hv; subst hv; rfl) (by decide)) (by unfold maxLen; omega) (by omega) (by simp; omega) ?_; intro v8 w8 hO8 hg8 hat8))
        have hw7 : w.heap.size ≤ (w6.alloc (.cells #[.int .i64 ((LF : Int) + (XL : Int))] 3)).heap.size := by simp; omega
        have hob8 : OB w8 w.heap.size 5 (.slice A6 (LF + XL) c6) (F ++ X) := by
          unfold OB
          rw [List.length_append, HLF.out, HXL.out, bv_append]
          have h7 := hO6.alloc (.cells #[.int .i64 ((LF : Int) + (XL : Int))] 3)
          exact h7.kept hg8 (own_own_ne hoe7 h7 (by decide))
        have hflat : (((rs ++ [r.pln]).map (enc true)).flatten) = F ++ X := by rw [List.map_append, List.flatten_append, HF.out]; simp [HX.out]
        have hends : Own w8 w.heap.size 3 1 v8 (M + 1 + 1) (endsv (rs ++ [r.pln])) := by
          rw [endsv_app, upto_len, hflat, List.length_append, HLF.out, HXL.out]
          exact hO8
        have hrs' : ∀ x ∈ rs ++ [r.pln], okM 3 x ∧ okR 4 x := by
          intro x hx
          rcases List.mem_append.1 hx with h | h
          · exact Hrs.out x h
          · rw [List.mem_singleton.1 h]; exact ⟨hpM, hpR⟩
        have hlen' : (rs ++ [r.pln]).length = M + 1 := by rw [List.length_append, HM.out]; rfl
        have hbf : Below w.heap.size w w8 := (((hbel.trans (hby.mono hsz)).grown hg6 hw4 (fun k hk => (hob4.lt k hk).1)).alloc hw6 _).grown hg8 hw7 (fun k hk => (hoe7.lt k hk).1)
        have HH := Lib.hid (And.intro hlen' (And.intro hrs' (And.intro hflat (And.intro hob8 (And.intro hends hbf)))))
        clear hlen' hrs' hflat hob8 hends hbf
        go_roundw
        case rel =>
          first
            | exact ⟨M + 1, rs ++ [r.pln], F ++ X, by go_num, by omega, Lib.hid HH.out.1, Lib.hid HH.out.2.1, Lib.hid HH.out.2.2.1, HH.out.2.2.2.1, HH.out.2.2.2.2.1, HH.out.2.2.2.2.2⟩
            | ((repeat apply Exists.intro); exact ⟨⟨M + 1, rs ++ [r.pln], F ++ X, by go_num, by omega, Lib.hid HH.out.1, Lib.hid HH.out.2.1, Lib.hid HH.out.2.2.1, HH.out.2.2.2.1, HH.out.2.2.2.2.1, HH.out.2.2.2.2.2⟩, rfl⟩)
        case measure => simp [intOf]; omega
    · have hiz' : ¬ (M : Int) < (z : Int) := by omega
      have hrs := Hrs.out
      have hF := rows_size rs hrs
      rw [HF.out, hLF, HM.out] at hF
      obtain ⟨ge, ce, hve, hge1, hge2, hce1, hce2, hcells⟩ := ownInts hoe
      injection hve with hv1 hv2 hv3
      subst hv1; subst hv3
      clear hv2
      have hce3 : ce0 ≤ 9223372036854775807 := by unfold maxLen at hce2; exact hce2
      have HLF := Lib.hid hLF
      have hbsl := hob.bsl
      have hcb := Own.caps hob1
      obtain ⟨hcb1, hcb2⟩ := hcb
      have hcb3 : cb ≤ 9223372036854775807 := by unfold maxLen at hcb2; exact hcb2
      have Hcells := Lib.hid hcells
      clear hLF hob hoe hrs hob1 hcells
      go_wp2_with fail
      refine (within_nat cut (LF : Nat) _ hcut (by omega) (by omega)).mono ?_
      rintro e w' ⟨k, hk, rfl, rfl⟩
      have hkL : k ≤ LF := by omega
      go_wp2_with fail
      go_loopw [13, 14] (fun x y wx => ∃ t i, x = .int .i64 (t : Nat) ∧ y = .int .i64 (i : Nat) ∧ i ≤ M + 1 ∧ t ≤ M ∧ Hid (upto rs t ≤ k) ∧ Hid (∀ j, j < i → upto rs j ≤ k → j ≤ t) ∧ Hid (wx = wr)) (fun _ y _ => M + 1 - (intOf y).toNat)
      case atStart => exact ⟨0, 0, rfl, rfl, by omega, by omega, Lib.hid (by simp [upto]), Lib.hid (fun j hj => by omega), Lib.hid rfl⟩
      case round =>
        obtain ⟨t, i, rfl, rfl, hiM, htM, HU, HA, HW⟩ := hrel
        obtain rfl := HW.out
        clear HW
        rcases Nat.lt_or_ge i (M + 1) with hlt | hge
        · have hlt' : (i : Int) < (M : Int) + 1 := by omega
          have hci : _ = some (Value.int .i64 (upto rs i : Nat)) := (Hcells.out i hlt).trans (endsv_at rs i (by rw [HM.out]; omega))
          obtain ⟨u, hu⟩ : ∃ u, upto rs i = u := ⟨_, rfl⟩
          have HUi := Lib.hid hu
          rw [hu] at hci
          clear hu
          by_cases huk : u ≤ k
          · have huk' : (u : Int) ≤ (k : Int) := by omega
            have HU2 := Lib.hid (show upto rs i ≤ k by rw [HUi.out]; exact huk)
            have HA2 := Lib.hid (show ∀ j, j < i + 1 → upto rs j ≤ k → j ≤ i from fun j hj _ => by omega)
            go_wp2_with fail
            go_roundw
            case rel => exact ⟨i, i + 1, by go_num, by go_num, by omega, by omega, HU2, HA2, Lib.hid (by first | trivial | rfl)⟩
            case measure => simp [intOf]; omega
          · have huk' : ¬ (u : Int) ≤ (k : Int) := by omega
            have HA2 := Lib.hid (show ∀ j, j < i + 1 → upto rs j ≤ k → j ≤ t from fun j hj hh => by
              rcases Nat.lt_or_ge j i with h | h
              · exact HA.out j h hh
              · have : j = i := by omega
                subst this
                rw [HUi.out] at hh; exact absurd hh huk)
            go_wp2_with fail
            go_roundw
            case rel => exact ⟨t, i + 1, by go_num, by go_num, by omega, htM, HU, HA2, Lib.hid (by first | trivial | rfl)⟩
            case measure => simp [intOf]; omega
        · have hAll := all_any _ _ wr (hbsl.take_ k hkL) (by rw [List.length_take]; omega)
          have HC := Lib.hid (fun (acc : List Rep) (q : Nat) (h : AllOf (F.take k) acc q) => all_cut rs k t (fun r hr => okR_mono 4 33 r (by omega) (Hrs.out r hr).2) (by rw [HF.out, HLF.out]; omega) (by rw [HM.out]; exact htM) (by rw [HF.out, HLF.out]; exact hkL) HU.out (fun h => by
            rcases Nat.lt_or_ge k (upto rs (t + 1)) with h' | h'
            · exact h'
            · have := HA.out (t + 1) (by rw [HM.out] at h; omega) h'; omega) (by rw [HF.out]; exact h))
          have hct : _ = some (Value.int .i64 (upto rs t : Nat)) := (Hcells.out t (by omega)).trans (endsv_at rs t (by rw [HM.out]; exact htM))
          have hk0 : (0 : Int) ≤ (k : Int) := by omega
          have hkc : (k : Int) ≤ (cb : Int) := by omega
          have htc : (t : Int) < (M : Int) + 1 := by omega
          have Hct := Lib.hid hct
          clear hct
          go_wp2_with fail
          refine hAll.mono ?_
          rintro e w2 ⟨⟨va, acc, q, rfl, hO, hall⟩, hb2⟩
          obtain ⟨ha1, ha2⟩ := HC.out acc q hall
          obtain ⟨Aa, ca, rfl⟩ := hO.form
          rw [ha1]
          subst ha2
          have hct2 : w2.cell? ⟨ge, t, none⟩ = some (Value.int .i64 (upto rs t : Nat)) := (hb2.cell (p := ⟨ge, t, none⟩) hge2).trans Hct.out
          obtain ⟨u, hu⟩ : ∃ u, upto rs t = u := ⟨_, rfl⟩
          rw [hu] at hct2 ⊢
          clear hu ha1 hO
          go_wp2_with fail
          refine (known_any _ ((Hmy.out.below_ hbel).below_ hb2)).mono ?_
          rintro e w3 ⟨rfl, hb3⟩
          go_wp2_with fail
          go_ret
          exact ⟨rfl, (hbel.trans (hb2.mono hbel.size)).trans (hb3.mono (Nat.le_trans hbel.size hb2.size))⟩
end Go.Proofs.YtjdnpgdedbegfaaDoor
