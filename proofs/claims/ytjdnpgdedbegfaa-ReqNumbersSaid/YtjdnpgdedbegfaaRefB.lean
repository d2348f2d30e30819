/- The walk of the reference's quoted. -/
import Derived.Test.YtjdnpgdedbegfaaRefA
namespace Go.Proofs.Ytjdnpgdedbegfaa
open Go.RowKit Go.Shelf
set_option linter.unusedVariables false

theorem ex_drop (l : List UInt8) (k : Nat) : (bs l).extract k l.length = bs (l.drop k) := by
  rw [bs_extract, bs_data, List.take_of_length_le (by rw [List.length_drop]; omega)]
theorem lenOf_sv (l : List UInt8) : lenOf (sv l) = l.length := bs_size l
/-- What quoted gives. -/
def rqRet : Option (List UInt8 × List UInt8) → Value
  | none => .tuple #[.string ⟨#[]⟩, .string ⟨#[]⟩, .bool false]
  | some (p, r) => .tuple #[sv p, sv r, .bool true]

set_option maxRecDepth 100000 in
set_option maxHeartbeats 8000000 in
theorem ref_quoted (l : List UInt8) (q : UInt8) (z : Int) (w : World) (hz : (q.toNat : Int) = z) (hq : q = 34 ∨ q = 39) (hl : l.length ≤ 1048576) :
    Calls Try.prog 35 #[.string (bs l), .int .u8 z] w fun e w' => e = .returned (rqRet (Rq.quoted q l)) ∧ Below w.heap.size w w' := by
  obtain ⟨i0, hi, hy0, hy1, hy2⟩ := info_parts u8info
  have HQ := Lib.hid (Rq.QAt.start q l)
  obtain ⟨L, hL⟩ : ∃ L, l = L := ⟨_, rfl⟩
  have h0 : l = L.drop 0 := by rw [hL]; rfl
  obtain ⟨n, hn⟩ : ∃ n, L.length = n := ⟨_, rfl⟩
  have HN := Lib.hid hn
  rw [hL] at HQ hl ⊢
  rw [hn] at hl
  have hob0 : OB (w.alloc (.cells #[] 5)) w.heap.size 5 (.slice (some ⟨w.heap.size, 0, none⟩) 0 0) [] := OB.mk (Own.lit (base := w.heap.size) w #[] 0 (Nat.le_refl _) (by decide) rfl) rfl
  have hb0 : Below w.heap.size w (w.alloc (.cells #[] 5)) := (Below.refl _ _).alloc (Nat.le_refl _) _
  have HO0 := Lib.hid hob0
  have HB0 := Lib.hid hb0
  clear hn h0 hL hob0 hb0
  rcases hq with rfl | rfl
  · subst hz
    go_enter Try.func35, Try.ntmps35
    go_wp2_with fail
    go_loopw [0, 7] (fun s v wr => ∃ (k : Nat) (acc : List UInt8), k ≤ n ∧ acc.length ≤ k ∧ s = sv (L.drop k) ∧ OB wr w.heap.size 5 v acc ∧ Hid (Rq.QAt 34 L k acc) ∧ Below w.heap.size w wr) (fun s _ _ => lenOf s)
    case atStart => exact ⟨0, [], Nat.zero_le _, Nat.le_refl _, rfl, HO0.out, HQ, HB0.out⟩
    case round =>
      clear HO0 HB0 HQ
      obtain ⟨k, acc, hk, hal, rfl, hob, HA, hbel⟩ := hrel
      have hbs := hbel.size
      obtain ⟨A, cc, rfl⟩ := OB.sliceForm hob
      obtain ⟨X, hX⟩ : ∃ X, L.drop k = X := ⟨_, rfl⟩
      obtain ⟨m, hm⟩ : ∃ m, n - k = m := ⟨_, rfl⟩
      have hXl : X.length = m := by rw [← hX, List.length_drop, HN.out]; exact hm
      have hsz : (bs X).size = m := by rw [bs_size]; exact hXl
      rw [hX]
      by_cases hkn : k < n
      · have hkL : k < L.length := by rw [HN.out]; exact hkn
        obtain ⟨c, hc⟩ : ∃ c, L[k] = c := ⟨_, rfl⟩
        have hx0 : 0 < (bs X).size := by rw [hsz]; omega
        have hx0' : 0 < X.length := by omega
        have hg1 : (bs X)[0]'hx0 = c := by
          rw [bs_get X 0 hx0 hx0', ← hc]; simp [← hX]
        have hex1 : (bs X).extract 1 m = bs (L.drop (k + 1)) := by rw [← hXl, ex_drop, ← hX, List.drop_drop]
        have hml : lenOf (sv (L.drop (k + 1))) = n - (k + 1) := by rw [lenOf_sv, List.length_drop, HN.out]
        have HML := Lib.hid (show ∀ j, lenOf (sv (L.drop j)) = n - j from fun j => by rw [lenOf_sv, List.length_drop, HN.out])
        have HXM := Lib.hid (show lenOf (sv X) = n - k by rw [lenOf_sv, hXl]; exact hm.symm)
        have i1 : (0 : Int) < (m : Int) := by omega
        have i2 : (1 : Int) ≤ (m : Int) := by omega
        by_cases hcq : c = 34
        · subst hcq
          have HR := Lib.hid (HA.out.hit hkL hc)
          have hcv := fun N => OB.string (Own.drewN hob N) Try.underlying30 Try.underlying5 Try.underlying9
          clear hX hm hc hml hkL
          go_wp2_with fail
          go_quiet (fail)
          go_wp2_with fail
          go_ret3
          exact ⟨by rw [HR.out]; rfl, Lib.below_drewN' hbel _⟩
        · have q0 := u8_f (c := c) 34 rfl hcq
          by_cases hc92 : c = 92
          · subst hc92
            by_cases hk2 : k + 1 < n
            · have hkL2 : k + 1 < L.length := by rw [HN.out]; exact hk2
              obtain ⟨d, hd⟩ : ∃ d, L[k + 1] = d := ⟨_, rfl⟩
              have hx1 : 1 < (bs X).size := by rw [hsz]; omega
              have hx1' : 1 < X.length := by omega
              have hg2 : (bs X)[1]'hx1 = d := by
                rw [bs_get X 1 hx1 hx1', ← hd]; simp [← hX]
              have hex2 : (bs X).extract 2 m = bs (L.drop (k + 2)) := by rw [← hXl, ex_drop, ← hX, List.drop_drop]
              have i3 : (2 : Int) ≤ (m : Int) := by omega
              have i4 : (1 : Int) < (m : Int) := by omega
              have HB := HA.out.esc_ hkL2 (by decide) hc (.inl rfl)
              rw [hd] at HB
              clear hd
              by_cases h1 : d = 110
              · subst h1
                have HC := Lib.hid (show Rq.QAt 34 L (k + 2) (acc ++ [10]) from HB)
                clear HB
                clear hX hm hc hml hcq hkL
                go_wp2_with (at_builtin; refine wpList_append_Own _ rfl (.tmp 56) (.tmp 58) _ _ rfl w.heap.size 5 i0 _ 1 1 Try.underlying30 hi hy0 hy1 hy2 rfl (.slice A acc.length cc) acc.length (bv acc) rfl (Own.alloc hob _) _ 1 [.int .u8 10] rfl (Src.own (Own.lit (base := w.heap.size) wr #[.int .u8 10] 1 hbs (by decide) rfl) Try.underlying30 (by intro v hv; simp at hv; subst hv; rfl) (by decide)) (by unfold maxLen; omega) (by omega) (by simp; omega) ?_; intro v1 w1 hO hgr hat)
                have hob1 : OB w1 w.heap.size 5 v1 (acc ++ [10]) := OB.mk hO (by rw [bv_append]; rfl)
                have hb1 : Below w.heap.size w w1 := (hbel.alloc hbs _).grown hgr (by simp; omega) (fun k hk => (Own.lt hob k hk).1)
                go_roundw
                case rel =>
                  first
                    | exact ⟨k + 2, acc ++ [10], by omega, by rw [List.length_append, List.length_singleton]; omega, rfl, hob1, HC, hb1⟩
                    | ((repeat apply Exists.intro); exact ⟨⟨k + 2, acc ++ [10], by omega, by rw [List.length_append, List.length_singleton]; omega, rfl, hob1, HC, hb1⟩, rfl⟩)
                case measure => show lenOf (sv (L.drop (k + 2))) < lenOf (sv X); rw [HML.out, HXM.out]; omega
              · have q1 := u8_f (c := d) 110 rfl h1
                by_cases h2 : d = 114
                · subst h2
                  have HC := Lib.hid (show Rq.QAt 34 L (k + 2) (acc ++ [13]) from HB)
                  clear HB
                  clear hX hm hc hml hcq hkL
                  go_wp2_with (at_builtin; refine wpList_append_Own _ rfl (.tmp 56) (.tmp 58) _ _ rfl w.heap.size 5 i0 _ 1 1 Try.underlying30 hi hy0 hy1 hy2 rfl (.slice A acc.length cc) acc.length (bv acc) rfl (Own.alloc hob _) _ 1 [.int .u8 13] rfl (Src.own (Own.lit (base := w.heap.size) wr #[.int .u8 13] 1 hbs (by decide) rfl) Try.underlying30 (by intro v hv; simp at hv; subst hv; rfl) (by decide)) (by unfold maxLen; omega) (by omega) (by simp; omega) ?_; intro v1 w1 hO hgr hat)
                  have hob1 : OB w1 w.heap.size 5 v1 (acc ++ [13]) := OB.mk hO (by rw [bv_append]; rfl)
                  have hb1 : Below w.heap.size w w1 := (hbel.alloc hbs _).grown hgr (by simp; omega) (fun k hk => (Own.lt hob k hk).1)
                  go_roundw
                  case rel =>
                    first
                      | exact ⟨k + 2, acc ++ [13], by omega, by rw [List.length_append, List.length_singleton]; omega, rfl, hob1, HC, hb1⟩
                      | ((repeat apply Exists.intro); exact ⟨⟨k + 2, acc ++ [13], by omega, by rw [List.length_append, List.length_singleton]; omega, rfl, hob1, HC, hb1⟩, rfl⟩)
                  case measure => show lenOf (sv (L.drop (k + 2))) < lenOf (sv X); rw [HML.out, HXM.out]; omega
                · have q2 := u8_f (c := d) 114 rfl h2
                  by_cases h3 : d = 116
                  · subst h3
                    have HC := Lib.hid (show Rq.QAt 34 L (k + 2) (acc ++ [9]) from HB)
                    clear HB
                    clear hX hm hc hml hcq hkL
                    go_wp2_with (at_builtin; refine wpList_append_Own _ rfl (.tmp 56) (.tmp 58) _ _ rfl w.heap.size 5 i0 _ 1 1 Try.underlying30 hi hy0 hy1 hy2 rfl (.slice A acc.length cc) acc.length (bv acc) rfl (Own.alloc hob _) _ 1 [.int .u8 9] rfl (Src.own (Own.lit (base := w.heap.size) wr #[.int .u8 9] 1 hbs (by decide) rfl) Try.underlying30 (by intro v hv; simp at hv; subst hv; rfl) (by decide)) (by unfold maxLen; omega) (by omega) (by simp; omega) ?_; intro v1 w1 hO hgr hat)
                    have hob1 : OB w1 w.heap.size 5 v1 (acc ++ [9]) := OB.mk hO (by rw [bv_append]; rfl)
                    have hb1 : Below w.heap.size w w1 := (hbel.alloc hbs _).grown hgr (by simp; omega) (fun k hk => (Own.lt hob k hk).1)
                    go_roundw
                    case rel =>
                      first
                        | exact ⟨k + 2, acc ++ [9], by omega, by rw [List.length_append, List.length_singleton]; omega, rfl, hob1, HC, hb1⟩
                        | ((repeat apply Exists.intro); exact ⟨⟨k + 2, acc ++ [9], by omega, by rw [List.length_append, List.length_singleton]; omega, rfl, hob1, HC, hb1⟩, rfl⟩)
                    case measure => show lenOf (sv (L.drop (k + 2))) < lenOf (sv X); rw [HML.out, HXM.out]; omega
                  · have q3 := u8_f (c := d) 116 rfl h3
                    have HC := Lib.hid (show Rq.QAt 34 L (k + 2) (acc ++ [d]) by
                      have e : Rq.esc 34 d = d := by unfold Rq.esc; rw [if_neg (by decide), if_neg h1, if_neg h2, if_neg h3]
                      rw [e] at HB; exact HB)
                    clear HB h1 h2 h3
                    clear hX hm hc hml hcq hkL
                    go_wp2_with (at_builtin; refine wpList_append_Own _ rfl (.tmp 56) (.tmp 58) _ _ rfl w.heap.size 5 i0 _ 1 1 Try.underlying30 hi hy0 hy1 hy2 rfl (.slice A acc.length cc) acc.length (bv acc) rfl (Own.alloc hob _) _ 1 [.int .u8 d.toNat] rfl (Src.own (Own.lit (base := w.heap.size) wr #[.int .u8 d.toNat] 1 hbs (by decide) rfl) Try.underlying30 (by intro v hv; simp at hv; subst hv; rfl) (by decide)) (by unfold maxLen; omega) (by omega) (by simp; omega) ?_; intro v1 w1 hO hgr hat)
                    have hob1 : OB w1 w.heap.size 5 v1 (acc ++ [d]) := OB.mk hO (by rw [bv_append]; rfl)
                    have hb1 : Below w.heap.size w w1 := (hbel.alloc hbs _).grown hgr (by simp; omega) (fun k hk => (Own.lt hob k hk).1)
                    go_roundw
                    case rel =>
                      first
                        | exact ⟨k + 2, acc ++ [d], by omega, by rw [List.length_append, List.length_singleton]; omega, rfl, hob1, HC, hb1⟩
                        | ((repeat apply Exists.intro); exact ⟨⟨k + 2, acc ++ [d], by omega, by rw [List.length_append, List.length_singleton]; omega, rfl, hob1, HC, hb1⟩, rfl⟩)
                    case measure => show lenOf (sv (L.drop (k + 2))) < lenOf (sv X); rw [HML.out, HXM.out]; omega
            · have i3 : (m : Int) < 2 := by omega
              have HC := Lib.hid (show Rq.QAt 34 L (k + 1) (acc ++ [92]) from by have := HA.out.next hkL (by rw [hc]; decide) (by rintro ⟨_, hj, _⟩; rw [HN.out] at hj; exact hk2 hj); rw [hc] at this; exact this)
              clear hX hm hc hml hcq hkL
              go_wp2_with (at_builtin; refine wpList_append_Own _ rfl (.tmp 39) (.tmp 41) _ _ rfl w.heap.size 5 i0 _ 1 1 Try.underlying30 hi hy0 hy1 hy2 rfl (.slice A acc.length cc) acc.length (bv acc) rfl (Own.alloc hob _) _ 1 [.int .u8 92] rfl (Src.own (Own.lit (base := w.heap.size) wr #[.int .u8 92] 1 hbs (by decide) rfl) Try.underlying30 (by intro v hv; simp at hv; subst hv; rfl) (by decide)) (by unfold maxLen; omega) (by omega) (by simp; omega) ?_; intro v1 w1 hO hgr hat)
              have hob1 : OB w1 w.heap.size 5 v1 (acc ++ [92]) := OB.mk hO (by rw [bv_append]; rfl)
              have hb1 : Below w.heap.size w w1 := (hbel.alloc hbs _).grown hgr (by simp; omega) (fun k hk => (Own.lt hob k hk).1)
              go_roundw
              case rel =>
                first
                  | exact ⟨k + 1, acc ++ [92], by omega, by rw [List.length_append, List.length_singleton]; omega, rfl, hob1, HC, hb1⟩
                  | ((repeat apply Exists.intro); exact ⟨⟨k + 1, acc ++ [92], by omega, by rw [List.length_append, List.length_singleton]; omega, rfl, hob1, HC, hb1⟩, rfl⟩)
              case measure => show lenOf (sv (L.drop (k + 1))) < lenOf (sv X); rw [HML.out, HXM.out]; omega
          · have q5 := u8_nt (c := c) 92 rfl hc92
            have HC := Lib.hid (show Rq.QAt 34 L (k + 1) (acc ++ [c]) from by have := HA.out.next hkL (by rw [hc]; exact hcq) (by rintro ⟨e, _⟩; exact hc92 (hc.symm.trans e)); rw [hc] at this; exact this)
            clear hc92
            clear hX hm hc hml hcq hkL
            go_wp2_with (at_builtin; refine wpList_append_Own _ rfl (.tmp 39) (.tmp 41) _ _ rfl w.heap.size 5 i0 _ 1 1 Try.underlying30 hi hy0 hy1 hy2 rfl (.slice A acc.length cc) acc.length (bv acc) rfl (Own.alloc hob _) _ 1 [.int .u8 c.toNat] rfl (Src.own (Own.lit (base := w.heap.size) wr #[.int .u8 c.toNat] 1 hbs (by decide) rfl) Try.underlying30 (by intro v hv; simp at hv; subst hv; rfl) (by decide)) (by unfold maxLen; omega) (by omega) (by simp; omega) ?_; intro v1 w1 hO hgr hat)
            have hob1 : OB w1 w.heap.size 5 v1 (acc ++ [c]) := OB.mk hO (by rw [bv_append]; rfl)
            have hb1 : Below w.heap.size w w1 := (hbel.alloc hbs _).grown hgr (by simp; omega) (fun k hk => (Own.lt hob k hk).1)
            go_roundw
            case rel =>
              first
                | exact ⟨k + 1, acc ++ [c], by omega, by rw [List.length_append, List.length_singleton]; omega, rfl, hob1, HC, hb1⟩
                | ((repeat apply Exists.intro); exact ⟨⟨k + 1, acc ++ [c], by omega, by rw [List.length_append, List.length_singleton]; omega, rfl, hob1, HC, hb1⟩, rfl⟩)
            case measure => show lenOf (sv (L.drop (k + 1))) < lenOf (sv X); rw [HML.out, HXM.out]; omega
      · have HR := Lib.hid (HA.out.out (by rw [HN.out]; exact hkn))
        have i1 : (m : Int) ≤ 0 := by omega
        clear hX hm
        go_wp2_with fail
        go_ret3
        exact ⟨by rw [HR.out]; rfl, hbel⟩
  · subst hz
    go_enter Try.func35, Try.ntmps35
    go_wp2_with fail
    go_loopw [0, 7] (fun s v wr => ∃ (k : Nat) (acc : List UInt8), k ≤ n ∧ acc.length ≤ k ∧ s = sv (L.drop k) ∧ OB wr w.heap.size 5 v acc ∧ Hid (Rq.QAt 39 L k acc) ∧ Below w.heap.size w wr) (fun s _ _ => lenOf s)
    case atStart => exact ⟨0, [], Nat.zero_le _, Nat.le_refl _, rfl, HO0.out, HQ, HB0.out⟩
    case round =>
      clear HO0 HB0 HQ
      obtain ⟨k, acc, hk, hal, rfl, hob, HA, hbel⟩ := hrel
      have hbs := hbel.size
      obtain ⟨A, cc, rfl⟩ := OB.sliceForm hob
      obtain ⟨X, hX⟩ : ∃ X, L.drop k = X := ⟨_, rfl⟩
      obtain ⟨m, hm⟩ : ∃ m, n - k = m := ⟨_, rfl⟩
      have hXl : X.length = m := by rw [← hX, List.length_drop, HN.out]; exact hm
      have hsz : (bs X).size = m := by rw [bs_size]; exact hXl
      rw [hX]
      by_cases hkn : k < n
      · have hkL : k < L.length := by rw [HN.out]; exact hkn
        obtain ⟨c, hc⟩ : ∃ c, L[k] = c := ⟨_, rfl⟩
        have hx0 : 0 < (bs X).size := by rw [hsz]; omega
        have hx0' : 0 < X.length := by omega
        have hg1 : (bs X)[0]'hx0 = c := by
          rw [bs_get X 0 hx0 hx0', ← hc]; simp [← hX]
        have hex1 : (bs X).extract 1 m = bs (L.drop (k + 1)) := by rw [← hXl, ex_drop, ← hX, List.drop_drop]
        have hml : lenOf (sv (L.drop (k + 1))) = n - (k + 1) := by rw [lenOf_sv, List.length_drop, HN.out]
        have HML := Lib.hid (show ∀ j, lenOf (sv (L.drop j)) = n - j from fun j => by rw [lenOf_sv, List.length_drop, HN.out])
        have HXM := Lib.hid (show lenOf (sv X) = n - k by rw [lenOf_sv, hXl]; exact hm.symm)
        have i1 : (0 : Int) < (m : Int) := by omega
        have i2 : (1 : Int) ≤ (m : Int) := by omega
        by_cases hcq : c = 39
        · subst hcq
          have HR := Lib.hid (HA.out.hit hkL hc)
          have hcv := fun N => OB.string (Own.drewN hob N) Try.underlying30 Try.underlying5 Try.underlying9
          clear hX hm hc hml hkL
          go_wp2_with fail
          go_quiet (fail)
          go_wp2_with fail
          go_ret3
          exact ⟨by rw [HR.out]; rfl, Lib.below_drewN' hbel _⟩
        · have q0 := u8_f (c := c) 39 rfl hcq
          by_cases hc92 : c = 92
          · subst hc92
            by_cases hk2 : k + 1 < n
            · have hkL2 : k + 1 < L.length := by rw [HN.out]; exact hk2
              obtain ⟨d, hd⟩ : ∃ d, L[k + 1] = d := ⟨_, rfl⟩
              have hx1 : 1 < (bs X).size := by rw [hsz]; omega
              have hx1' : 1 < X.length := by omega
              have hg2 : (bs X)[1]'hx1 = d := by
                rw [bs_get X 1 hx1 hx1', ← hd]; simp [← hX]
              have hex2 : (bs X).extract 2 m = bs (L.drop (k + 2)) := by rw [← hXl, ex_drop, ← hX, List.drop_drop]
              have i3 : (2 : Int) ≤ (m : Int) := by omega
              have i4 : (1 : Int) < (m : Int) := by omega
              by_cases h1 : d = 39
              · subst h1
                have HC := Lib.hid (show Rq.QAt 39 L (k + 2) (acc ++ [39]) from by have := HA.out.esc_ hkL2 (by decide) hc (.inr hd); rw [hd] at this; exact this)
                clear hd
                clear hX hm hc hml hcq hkL
                go_wp2_with (at_builtin; refine wpList_append_Own _ rfl (.tmp 56) (.tmp 58) _ _ rfl w.heap.size 5 i0 _ 1 1 Try.underlying30 hi hy0 hy1 hy2 rfl (.slice A acc.length cc) acc.length (bv acc) rfl (Own.alloc hob _) _ 1 [.int .u8 39] rfl (Src.own (Own.lit (base := w.heap.size) wr #[.int .u8 39] 1 hbs (by decide) rfl) Try.underlying30 (by intro v hv; simp at hv; subst hv; rfl) (by decide)) (by unfold maxLen; omega) (by omega) (by simp; omega) ?_; intro v1 w1 hO hgr hat)
                have hob1 : OB w1 w.heap.size 5 v1 (acc ++ [39]) := OB.mk hO (by rw [bv_append]; rfl)
                have hb1 : Below w.heap.size w w1 := (hbel.alloc hbs _).grown hgr (by simp; omega) (fun k hk => (Own.lt hob k hk).1)
                go_roundw
                case rel =>
                  first
                    | exact ⟨k + 2, acc ++ [39], by omega, by rw [List.length_append, List.length_singleton]; omega, rfl, hob1, HC, hb1⟩
                    | ((repeat apply Exists.intro); exact ⟨⟨k + 2, acc ++ [39], by omega, by rw [List.length_append, List.length_singleton]; omega, rfl, hob1, HC, hb1⟩, rfl⟩)
                case measure => show lenOf (sv (L.drop (k + 2))) < lenOf (sv X); rw [HML.out, HXM.out]; omega
              · have q1 := u8_nt (c := d) 39 rfl h1
                have HC := Lib.hid (show Rq.QAt 39 L (k + 1) (acc ++ [92]) from by have := HA.out.next hkL (by rw [hc]; decide) (by rintro ⟨_, hj, e | e⟩; exact absurd e (by decide); exact h1 (hd.symm.trans e)); rw [hc] at this; exact this)
                clear hd h1
                clear hX hm hc hml hcq hkL
                go_wp2_with (at_builtin; refine wpList_append_Own _ rfl (.tmp 39) (.tmp 41) _ _ rfl w.heap.size 5 i0 _ 1 1 Try.underlying30 hi hy0 hy1 hy2 rfl (.slice A acc.length cc) acc.length (bv acc) rfl (Own.alloc hob _) _ 1 [.int .u8 92] rfl (Src.own (Own.lit (base := w.heap.size) wr #[.int .u8 92] 1 hbs (by decide) rfl) Try.underlying30 (by intro v hv; simp at hv; subst hv; rfl) (by decide)) (by unfold maxLen; omega) (by omega) (by simp; omega) ?_; intro v1 w1 hO hgr hat)
                have hob1 : OB w1 w.heap.size 5 v1 (acc ++ [92]) := OB.mk hO (by rw [bv_append]; rfl)
                have hb1 : Below w.heap.size w w1 := (hbel.alloc hbs _).grown hgr (by simp; omega) (fun k hk => (Own.lt hob k hk).1)
                go_roundw
                case rel =>
                  first
                    | exact ⟨k + 1, acc ++ [92], by omega, by rw [List.length_append, List.length_singleton]; omega, rfl, hob1, HC, hb1⟩
                    | ((repeat apply Exists.intro); exact ⟨⟨k + 1, acc ++ [92], by omega, by rw [List.length_append, List.length_singleton]; omega, rfl, hob1, HC, hb1⟩, rfl⟩)
                case measure => show lenOf (sv (L.drop (k + 1))) < lenOf (sv X); rw [HML.out, HXM.out]; omega
            · have i3 : (m : Int) < 2 := by omega
              have HC := Lib.hid (show Rq.QAt 39 L (k + 1) (acc ++ [92]) from by have := HA.out.next hkL (by rw [hc]; decide) (by rintro ⟨_, hj, _⟩; rw [HN.out] at hj; exact hk2 hj); rw [hc] at this; exact this)
              clear hX hm hc hml hcq hkL
              go_wp2_with (at_builtin; refine wpList_append_Own _ rfl (.tmp 39) (.tmp 41) _ _ rfl w.heap.size 5 i0 _ 1 1 Try.underlying30 hi hy0 hy1 hy2 rfl (.slice A acc.length cc) acc.length (bv acc) rfl (Own.alloc hob _) _ 1 [.int .u8 92] rfl (Src.own (Own.lit (base := w.heap.size) wr #[.int .u8 92] 1 hbs (by decide) rfl) Try.underlying30 (by intro v hv; simp at hv; subst hv; rfl) (by decide)) (by unfold maxLen; omega) (by omega) (by simp; omega) ?_; intro v1 w1 hO hgr hat)
              have hob1 : OB w1 w.heap.size 5 v1 (acc ++ [92]) := OB.mk hO (by rw [bv_append]; rfl)
              have hb1 : Below w.heap.size w w1 := (hbel.alloc hbs _).grown hgr (by simp; omega) (fun k hk => (Own.lt hob k hk).1)
              go_roundw
              case rel =>
                first
                  | exact ⟨k + 1, acc ++ [92], by omega, by rw [List.length_append, List.length_singleton]; omega, rfl, hob1, HC, hb1⟩
                  | ((repeat apply Exists.intro); exact ⟨⟨k + 1, acc ++ [92], by omega, by rw [List.length_append, List.length_singleton]; omega, rfl, hob1, HC, hb1⟩, rfl⟩)
              case measure => show lenOf (sv (L.drop (k + 1))) < lenOf (sv X); rw [HML.out, HXM.out]; omega
          · have q5 := u8_nt (c := c) 92 rfl hc92
            have HC := Lib.hid (show Rq.QAt 39 L (k + 1) (acc ++ [c]) from by have := HA.out.next hkL (by rw [hc]; exact hcq) (by rintro ⟨e, _⟩; exact hc92 (hc.symm.trans e)); rw [hc] at this; exact this)
            clear hc92
            clear hX hm hc hml hcq hkL
            go_wp2_with (at_builtin; refine wpList_append_Own _ rfl (.tmp 39) (.tmp 41) _ _ rfl w.heap.size 5 i0 _ 1 1 Try.underlying30 hi hy0 hy1 hy2 rfl (.slice A acc.length cc) acc.length (bv acc) rfl (Own.alloc hob _) _ 1 [.int .u8 c.toNat] rfl (Src.own (Own.lit (base := w.heap.size) wr #[.int .u8 c.toNat] 1 hbs (by decide) rfl) Try.underlying30 (by intro v hv; simp at hv; subst hv; rfl) (by decide)) (by unfold maxLen; omega) (by omega) (by simp; omega) ?_; intro v1 w1 hO hgr hat)
            have hob1 : OB w1 w.heap.size 5 v1 (acc ++ [c]) := OB.mk hO (by rw [bv_append]; rfl)
            have hb1 : Below w.heap.size w w1 := (hbel.alloc hbs _).grown hgr (by simp; omega) (fun k hk => (Own.lt hob k hk).1)
            go_roundw
            case rel =>
              first
                | exact ⟨k + 1, acc ++ [c], by omega, by rw [List.length_append, List.length_singleton]; omega, rfl, hob1, HC, hb1⟩
                | ((repeat apply Exists.intro); exact ⟨⟨k + 1, acc ++ [c], by omega, by rw [List.length_append, List.length_singleton]; omega, rfl, hob1, HC, hb1⟩, rfl⟩)
            case measure => show lenOf (sv (L.drop (k + 1))) < lenOf (sv X); rw [HML.out, HXM.out]; omega
      · have HR := Lib.hid (HA.out.out (by rw [HN.out]; exact hkn))
        have i1 : (m : Int) ≤ 0 := by omega
        clear hX hm
        go_wp2_with fail
        go_ret3
        exact ⟨by rw [HR.out]; rfl, hbel⟩
end Go.Proofs.Ytjdnpgdedbegfaa
