/- The walk of the reference's Next. -/
import Derived.Test.YtjdnpgdedbegfaaRefD
namespace Go.Proofs.Ytjdnpgdedbegfaa
open Go.RowKit Go.Shelf
set_option linter.unusedVariables false

theorem count_none {l : List UInt8} {p : Nat} {z : Int} {low most : Int} (w : World) (hz : (p : Int) = z) (hl : l.length ≤ 1048576) (hp : p ≤ l.length) (h : Rq.number low most (l.drop p) = none) :
    Calls Try.prog 33 #[.string (bs l), .int .i64 z, .int .i64 low, .int .i64 most] w fun e w' => e = .returned (.tuple #[.int .i64 0, .int .i64 0, .int .i64 3]) ∧ w = w' := by
  subst hz
  exact (ref_count l p low most w hl hp).mono fun e w' ⟨he, hw⟩ => ⟨by rw [he, h]; rfl, hw⟩
theorem count_part {l : List UInt8} {p : Nat} {z : Int} {low most : Int} (w : World) (hz : (p : Int) = z) (hl : l.length ≤ 1048576) (hp : p ≤ l.length) (h : Rq.number low most (l.drop p) = some none) :
    Calls Try.prog 33 #[.string (bs l), .int .i64 z, .int .i64 low, .int .i64 most] w fun e w' => e = .returned (.tuple #[.int .i64 0, .int .i64 0, .int .i64 2]) ∧ w = w' := by
  subst hz
  exact (ref_count l p low most w hl hp).mono fun e w' ⟨he, hw⟩ => ⟨by rw [he, h]; rfl, hw⟩
theorem count_some {l : List UInt8} {p : Nat} {z : Int} {low most : Int} (w : World) (hz : (p : Int) = z) (hl : l.length ≤ 1048576) (hp : p ≤ l.length) {x : Int} {r : List UInt8} (h : Rq.number low most (l.drop p) = some (some (x, r))) (q : Nat) (hq : l.length - r.length = q) :
    Calls Try.prog 33 #[.string (bs l), .int .i64 z, .int .i64 low, .int .i64 most] w fun e w' => e = .returned (.tuple #[.int .i64 x, .int .i64 q, .int .i64 1]) ∧ w = w' := by
  subst hz
  exact (ref_count l p low most w hl hp).mono fun e w' ⟨he, hw⟩ => ⟨by rw [he, h, countRet_some hq], hw⟩
theorem drop_at {L : List UInt8} {p : Nat} {d : UInt8} (h : p < L.length) (hd : L[p] = d) : L.drop p = d :: L.drop (p + 1) := by
  rw [← hd]; exact List.drop_eq_getElem_cons h
theorem two_eq {L : List UInt8} {j : Nat} {d1 d2 : UInt8} (hj : j + 1 < L.length) (h1 : L[j] = d1) (h2 : L[j + 1] = d2) : (L.drop j).take 2 = [d1, d2] := by
  rw [drop_at (by omega) h1, drop_at hj h2]; rfl
theorem bulk_of {L r : List UInt8} {p m : Nat} (hp : p < L.length) (hc : L[p] = 36) (hn : Rq.number 0 65536 (L.drop (p + 1)) = some (some ((m : Int), r))) :
    Rq.bulk (L.drop p) = if r.length < m + 2 then some none else if (r.drop m).take 2 = [13, 10] then some (some (r.take m, r.drop (m + 2))) else none := by
  rw [drop_at hp hc]; simp [Rq.bulk, hn]
theorem ex_mid (L : List UInt8) (a m : Nat) : (bs L).extract a (a + m) = bs ((L.drop a).take m) := by
  rw [bs_extract, bs_data, show a + m - a = m from by omega]

set_option maxRecDepth 100000 in
set_option maxHeartbeats 16000000 in
theorem ref_next (L : List UInt8) (w : World) (hl : L.length ≤ 1048576) :
    Calls Try.prog 24 #[.string (bs L)] w fun e w' => RNRet w.heap.size w' e L (Rq.nxt L) ∧ Below w.heap.size w w' := by
  obtain ⟨i0, hi, hy0, hy1, hy2⟩ := info_parts strinfo
  obtain ⟨n, hn⟩ : ∃ n, L.length = n := ⟨_, rfl⟩
  have HN := Lib.hid hn
  have hlL := Lib.hid hl
  rw [hn] at hl
  have hbz : (bs L).size = n := by rw [bs_size]; exact hn
  have hln := hn
  by_cases hn0 : n = 0
  · have hL : L = [] := List.eq_nil_of_length_eq_zero (by omega)
    have HR := Lib.hid (show Rq.nxt L = some none by rw [hL]; rfl)
    have i1 : ((n : Int) == 0) = true := by simpa using hn0
    clear hL hn0 hn
    go_enter Try.func24, Try.ntmps24
    go_wp2_with fail
    go_ret3
    rw [HR.out]
    exact ⟨rfl, Below.refl _ _⟩
  · have i1 : ((n : Int) == 0) = false := by simpa using hn0
    have h0L : 0 < L.length := by omega
    have hx0 : 0 < (bs L).size := by omega
    obtain ⟨c, hc⟩ : ∃ c, L[0] = c := ⟨_, rfl⟩
    have hg1 : (bs L)[0]'hx0 = c := (bs_get L 0 hx0 h0L).trans hc
    have hLc : L = c :: L.drop 1 := by have := drop_at h0L hc; rw [List.drop_zero] at this; exact this
    have i2 : (0 : Int) < (n : Int) := by omega
    by_cases hstar : c = 42
    · subst hstar
      have HX := Lib.hid (show Rq.nxt L = Rq.arr (L.drop 1) by rw [hLc]; simp [Rq.nxt])
      have h1L := Lib.hid (show 1 ≤ L.length by omega)
      rcases hnum : Rq.number (-1) 256 (L.drop 1) with _ | _ | ⟨x, r⟩
      · have HR := Lib.hid (show Rq.nxt L = none by rw [HX.out]; unfold Rq.arr; rw [hnum])
        clear hLc hc hn
        go_enter Try.func24, Try.ntmps24
        go_wp2_with fail
        refine (count_none _ (p := 1) rfl hlL.out h1L.out hnum).mono ?_
        rintro e w1 ⟨rfl, rfl⟩
        go_wp2_with fail
        go_ret3
        rw [HR.out]
        exact ⟨rfl, Below.refl _ _⟩
      · have HR := Lib.hid (show Rq.nxt L = some none by rw [HX.out]; unfold Rq.arr; rw [hnum])
        clear hLc hc hn
        go_enter Try.func24, Try.ntmps24
        go_wp2_with fail
        refine (count_part _ (p := 1) rfl hlL.out h1L.out hnum).mono ?_
        rintro e w1 ⟨rfl, rfl⟩
        go_wp2_with fail
        go_ret3
        rw [HR.out]
        exact ⟨rfl, Below.refl _ _⟩
      · obtain ⟨hxl, hxu⟩ := Rq.number_range hnum
        have hra := Rq.number_at hnum
        have hrl := (Rq.number_whole [] hnum).2
        rw [List.length_drop] at hrl
        obtain ⟨q0, hq0⟩ : ∃ q, L.length - r.length = q := ⟨_, rfl⟩
        rw [hq0] at hra
        have HR := Lib.hid (show Rq.nxt L = Rq.bulks x.toNat r by rw [HX.out]; unfold Rq.arr; rw [hnum])
        have HS := Lib.hid (show Rq.BsAt r x.toNat x.toNat [] (L.drop q0) by rw [← hra]; exact Rq.BsAt.start _ _)
        have HQ := Lib.hid hq0
        have hq0n : q0 ≤ n := by omega
        have hbz2 := Lib.hid hbz
        clear hLc hc hn hra hrl hq0
        go_enter Try.func24, Try.ntmps24
        go_wp2_with fail
        refine (count_some _ (p := 1) rfl hlL.out h1L.out hnum q0 HQ.out).mono ?_
        rintro e w1 ⟨rfl, rfl⟩
        clear hnum
        go_wp2_with fail
        go_loopw [5, 6, 8] (fun x' y v wr => ∃ (z : Int) (p : Nat) (acc : List (List UInt8)), x' = .int .i64 z ∧ y = .int .i64 p ∧ -1 ≤ z ∧ z ≤ 256 ∧ p ≤ n ∧ acc.length + z.toNat ≤ 256 ∧ Own wr w.heap.size 9 1 v acc.length (acc.map sv) ∧ Hid (Rq.BsAt r x.toNat z.toNat acc (L.drop p)) ∧ Below w.heap.size w wr)
          (fun x' _ _ _ => (intOf x').toNat)
        case atStart => exact ⟨x, q0, [], rfl, rfl, hxl, hxu, hq0n, by simp; omega, Own.nil _ _ _ _, HS, Below.refl _ _⟩
        case round =>
          obtain ⟨z, p, acc, rfl, rfl, hzl, hzu, hpn, hac, hob, HB, hbel⟩ := hrel
          have hbs := hbel.size
          obtain ⟨A, cc, rfl⟩ := hob.sliceForm
          by_cases hz : 0 < z
          · obtain ⟨k, rfl⟩ : ∃ k : Nat, z = (k : Int) + 1 := ⟨(z - 1).toNat, by omega⟩
            have hk1 : ((k : Int) + 1).toNat = k + 1 := by omega
            rw [hk1] at hac HB
            clear hk1
            by_cases hpe : p < n
            · have hpL : p < L.length := by omega
              have hxp : p < (bs L).size := by omega
              obtain ⟨d, hd⟩ : ∃ d, L[p] = d := ⟨_, rfl⟩
              have hg2 : (bs L)[p]'hxp = d := (bs_get L p hxp hpL).trans hd
              have j1 : (p : Int) < (n : Int) := by omega
              have j2 : (0 : Int) ≤ (p : Int) := by omega
              by_cases hd36 : d = 36
              · subst hd36
                have hp1L := Lib.hid (show p + 1 ≤ L.length by omega)
                have hcast : ((p + 1 : Nat) : Int) = (p : Int) + 1 := by omega
                have HCA := Lib.hid hcast
                clear hcast
                rcases hnum : Rq.number 0 65536 (L.drop (p + 1)) with _ | _ | ⟨y, r2⟩
                · have hbk : Rq.bulk (L.drop p) = none := by rw [drop_at hpL hd]; simp [Rq.bulk, hnum]
                  have HF := Lib.hid (HR.out.trans (HB.out.bad hbk))
                  clear hd hbk
                  go_wp2_with fail
                  refine (count_none _ (p := p + 1) HCA.out hlL.out hp1L.out hnum).mono ?_
                  rintro e w1 ⟨rfl, rfl⟩
                  go_wp2_with fail
                  go_ret3
                  rw [HF.out]
                  exact ⟨rfl, hbel⟩
                · have hbk : Rq.bulk (L.drop p) = some none := by rw [drop_at hpL hd]; simp [Rq.bulk, hnum]
                  have HF := Lib.hid (HR.out.trans (HB.out.part hbk))
                  clear hd hbk
                  go_wp2_with fail
                  refine (count_part _ (p := p + 1) HCA.out hlL.out hp1L.out hnum).mono ?_
                  rintro e w1 ⟨rfl, rfl⟩
                  go_wp2_with fail
                  go_ret3
                  rw [HF.out]
                  exact ⟨rfl, hbel⟩
                · obtain ⟨hy0', hy1'⟩ := Rq.number_range hnum
                  obtain ⟨m, rfl⟩ : ∃ m : Nat, y = (m : Int) := ⟨y.toNat, by omega⟩
                  have hbk := bulk_of hpL hd hnum
                  have hra := Rq.number_at hnum
                  have hrl := (Rq.number_whole [] hnum).2
                  rw [List.length_drop] at hrl
                  obtain ⟨q, hq⟩ : ∃ q, L.length - r2.length = q := ⟨_, rfl⟩
                  rw [hq] at hra
                  have HQ2 := Lib.hid hq
                  have hr2l : r2.length = n - q := by omega
                  have hqn : q ≤ n := by omega
                  by_cases hlt : n - q < m + 2
                  · have HF := Lib.hid (HR.out.trans (HB.out.part (by rw [hbk, if_pos (by omega)])))
                    have j3 : (n : Int) - (q : Int) < (m : Int) + 2 := by omega
                    clear hd hbk hra hrl hq hr2l hlt
                    go_wp2_with fail
                    refine (count_some _ (p := p + 1) HCA.out hlL.out hp1L.out hnum q HQ2.out).mono ?_
                    rintro e w1 ⟨rfl, rfl⟩
                    go_wp2_with fail
                    go_ret3
                    rw [HF.out]
                    exact ⟨rfl, hbel⟩
                  · have j3 : (m : Int) + 2 ≤ (n : Int) - (q : Int) := by omega
                    have hq1 : q + m + 1 < L.length := by omega
                    have hq0L : q + m < L.length := by omega
                    have hxa : q + m < (bs L).size := by omega
                    have hxb : q + m + 1 < (bs L).size := by omega
                    obtain ⟨e1, he1⟩ : ∃ d, L[q + m] = d := ⟨_, rfl⟩
                    obtain ⟨e2, he2⟩ : ∃ d, L[q + m + 1] = d := ⟨_, rfl⟩
                    have hg3 : (bs L)[q + m]'hxa = e1 := (bs_get L _ hxa hq0L).trans he1
                    have hg4 : (bs L)[q + m + 1]'hxb = e2 := (bs_get L _ hxb hq1).trans he2
                    have htwo : (r2.drop m).take 2 = [e1, e2] := by rw [hra, List.drop_drop]; exact two_eq hq1 he1 he2
                    have j4 : (q : Int) + (m : Int) + 1 < (n : Int) := by omega
                    have j5 : (q : Int) + (m : Int) < (n : Int) := by omega
                    rw [if_neg (by omega), htwo] at hbk
                    by_cases hend : e1 = 13 ∧ e2 = 10
                    · obtain ⟨rfl, rfl⟩ := hend
                      rw [if_pos rfl] at hbk
                      have hex : (bs L).extract q (q + m) = bs ((L.drop q).take m) := ex_mid L q m
                      have HC := Lib.hid (show Rq.BsAt r x.toNat k (acc ++ [(L.drop q).take m]) (L.drop (q + m + 2)) by
                        have := HB.out.next hbk
                        rw [hra, List.drop_drop] at this
                        exact this)
                      obtain ⟨s, hs⟩ : ∃ s, (L.drop q).take m = s := ⟨_, rfl⟩
                      rw [hs] at hex HC
                      have j6 : (q : Int) ≤ (q : Int) + (m : Int) := by omega
                      have j7 : (q : Int) + (m : Int) ≤ (n : Int) := by omega
                      clear hd hbk hra hrl hq hr2l hlt he1 he2 htwo hs
                      go_wp2_with fail
                      refine (count_some _ (p := p + 1) HCA.out hlL.out hp1L.out hnum q HQ2.out).mono ?_
                      rintro e w1 ⟨rfl, rfl⟩
                      go_wp2_with (at_builtin; refine wpList_append_Own _ rfl (.tmp 77) (.tmp 84) _ _ rfl w.heap.size 9 i0 _ 1 16 Try.underlying33 hi hy0 hy1 hy2 rfl (.slice A acc.length cc) acc.length (acc.map sv) rfl (hob.alloc _) _ 1 [sv s] rfl (Src.own (Own.lit (base := w.heap.size) wr #[sv s] 1 hbs (by decide) rfl) Try.underlying33 (by intro v hv; simp at hv; subst hv; rfl) (by decide)) (by unfold maxLen; omega) (by omega) (by simp; omega) ?_; intro v1 w2 hO hgr hat)
                      have hO1 : Own w2 w.heap.size 9 1 v1 (acc ++ [s]).length ((acc ++ [s]).map sv) := by rw [List.map_append, List.length_append]; exact hO
                      have hb9 : Below w.heap.size w w2 := (hbel.alloc hbs _).grown hgr (by simp; omega) (fun k hk => (hob.lt k hk).1)
                      have HC' : Hid (Rq.BsAt r x.toNat ((k : Int)).toNat (acc ++ [s]) (L.drop (q + m + 2))) := by rw [show ((k : Int)).toNat = k from by omega]; exact HC
                      go_roundw
                      case rel =>
                        first
                          | exact ⟨(k : Int), q + m + 2, acc ++ [s], by go_num, by go_num, by omega, by omega, by omega, by rw [List.length_append, List.length_singleton]; omega, hO1, HC', hb9⟩
                          | ((repeat apply Exists.intro); exact ⟨⟨(k : Int), q + m + 2, acc ++ [s], by go_num, by go_num, by omega, by omega, by omega, by rw [List.length_append, List.length_singleton]; omega, hO1, HC', hb9⟩, rfl⟩)
                      case measure => (simp [intOf]) <;> omega
                    · rw [if_neg (by intro h; injection h with h1 h2; injection h2 with h2 _; exact hend ⟨h1, h2⟩)] at hbk
                      have HF := Lib.hid (HR.out.trans (HB.out.bad hbk))
                      by_cases h13 : e1 = 13
                      · subst h13
                        have q2 := u8_nt (c := e2) 10 rfl (fun e => hend ⟨rfl, e⟩)
                        clear hd hbk hra hrl hq hr2l hlt he1 he2 htwo hend
                        go_wp2_with fail
                        refine (count_some _ (p := p + 1) HCA.out hlL.out hp1L.out hnum q HQ2.out).mono ?_
                        rintro e w1 ⟨rfl, rfl⟩
                        go_wp2_with fail
                        go_ret3
                        rw [HF.out]
                        exact ⟨rfl, hbel⟩
                      · have q1 := u8_nt (c := e1) 13 rfl h13
                        clear hd hbk hra hrl hq hr2l hlt he1 he2 htwo hend h13
                        go_wp2_with fail
                        refine (count_some _ (p := p + 1) HCA.out hlL.out hp1L.out hnum q HQ2.out).mono ?_
                        rintro e w1 ⟨rfl, rfl⟩
                        go_wp2_with fail
                        go_ret3
                        rw [HF.out]
                        exact ⟨rfl, hbel⟩
              · have q1 := u8_nt (c := d) 36 rfl hd36
                have hbk : Rq.bulk (L.drop p) = none := by rw [drop_at hpL hd]; simp [Rq.bulk, hd36]
                have HF := Lib.hid (HR.out.trans (HB.out.bad hbk))
                clear hd hd36 hbk
                go_wp2_with fail
                go_ret3
                rw [HF.out]
                exact ⟨rfl, hbel⟩
            · have hbk : Rq.bulk (L.drop p) = some none := by rw [List.drop_eq_nil_of_le (by omega)]; rfl
              have HF := Lib.hid (HR.out.trans (HB.out.part hbk))
              have j1 : (n : Int) ≤ (p : Int) := by omega
              clear hbk
              go_wp2_with fail
              go_ret3
              rw [HF.out]
              exact ⟨rfl, hbel⟩
          · have hz0 : z ≤ 0 := by omega
            have hzn : z.toNat = 0 := by omega
            rw [hzn] at HB
            have HF := Lib.hid (HR.out.trans HB.out.out)
            have HZ := Lib.hid (show L.length - (L.drop p).length = p by rw [List.length_drop]; omega)
            clear hzn
            go_wp2_with fail
            go_ret3
            rw [HF.out]
            refine ⟨⟨_, ?_, hob⟩, hbel⟩
            rw [HZ.out]; rfl
    · have HX := Lib.hid (show Rq.nxt L = Rq.inl L by rw [hLc]; simp [Rq.nxt, hstar])
      have q1 := u8_nt (c := c) 42 rfl hstar
      clear hLc hc hn hstar
      go_enter Try.func24, Try.ntmps24
      go_wp2_with fail
      refine (ref_inline L w hlL.out).mono ?_
      rintro e w1 ⟨he, hb1⟩
      rcases hin : Rq.inl L with _ | _ | ⟨ss, r⟩
      · rw [hin] at he
        obtain rfl := he
        have HR := Lib.hid (HX.out.trans hin)
        go_wp2_with fail
        go_ret3
        rw [HR.out]
        exact ⟨rfl, hb1⟩
      · rw [hin] at he
        obtain rfl := he
        have HR := Lib.hid (HX.out.trans hin)
        go_wp2_with fail
        go_ret3
        rw [HR.out]
        exact ⟨rfl, hb1⟩
      · rw [hin] at he
        obtain ⟨v, he2, hO⟩ := he
        obtain ⟨q, hq⟩ : ∃ q, L.length - r.length = q := ⟨_, rfl⟩
        have HQ := Lib.hid hq
        rw [hq] at he2
        obtain rfl := he2
        have HR := Lib.hid (HX.out.trans hin)
        clear hq
        go_wp2_with fail
        go_ret3
        rw [HR.out]
        refine ⟨⟨v, ?_, hO⟩, hb1⟩
        rw [HQ.out]; rfl
end Go.Proofs.Ytjdnpgdedbegfaa
