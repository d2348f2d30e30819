/- The walk of the law ReqPieces. -/
import Derived.Test.YtjdnpgdedbegfaaLaw19d
namespace Go.Proofs.Ytjdnpgdedbegfaa.Rq
theorem all_len {l : B} {x : List (List B)} {r : B} {bad : Bool} (h : all l = (x, r, bad)) : r.length ≤ l.length ∧ x.length ≤ l.length ∧ r = l.drop (l.length - r.length) := by
  have hs : r <:+ l := by
    have := all_suf l.length (l := l) (Nat.le_refl _)
    rwa [h] at this
  refine ⟨hs.length_le, ?_, suf_drop hs⟩
  have key : ∀ (k : Nat) (l : B), l.length ≤ k → (all l).1.length ≤ l.length := by
    intro k
    induction k with
    | zero => intro l hl; have : l = [] := List.eq_nil_of_length_eq_zero (by omega); subst this; rw [all_part rfl]; simp
    | succ k ih =>
      intro l hl
      rcases hx : nxt l with _ | _ | ⟨ws, r⟩
      · rw [all_none hx]; simp
      · rw [all_part hx]; simp
      · have h1 := nxt_less hx
        have h2 := ih r (by omega)
        rw [all_whole hx]
        split
        · simp only; omega
        · simp only [List.length_cons]; omega
  have := key l.length l (Nat.le_refl _)
  rwa [h] at this
end Go.Proofs.Ytjdnpgdedbegfaa.Rq
namespace Go.Proofs.Ytjdnpgdedbegfaa
open Go.RowKit Go.Shelf
set_option linter.unusedVariables false

theorem conv_bytes (l : List UInt8) (w : World) (hl : l.length ≤ maxLen) : ∃ c W', (convert 9 30 (.string (bs l))).run Try.prog w = .ok (.slice (some ⟨w.heap.size, 0, none⟩) l.length c) W' ∧
    OB W' w.heap.size 5 (.slice (some ⟨w.heap.size, 0, none⟩) l.length c) l ∧ Below w.heap.size w W' := by
  have hcv := run_bytes_of_string (P := Try.prog) w 9 30 5 (bs l) Try.underlying9 Try.underlying30 Try.underlying5
  have hob := OB.of_convert (w := w) (bs l) 5 w.heap.size (Nat.le_refl _) (by rw [bs_size]; exact hl)
  rw [bs_size] at hcv
  rw [bs_size, bs_data] at hob
  exact ⟨_, _, hcv, hob, (Below.refl _ _).drew.alloc (Nat.le_refl _) _⟩
/-- Behind an append of many lists. -/
theorem LL.app {w w' : World} {B B' : Nat} {v v' x : Value} {ws us : List (List (List UInt8))} {vs xs : List Value}
    (h2 : ∀ (i : Nat) (l : List (List UInt8)) (u : Value), ws[i]? = some l → vs[i]? = some u → Own w B 9 1 u l.length (l.map sv)) (h1 : Own w B 33 1 v ws.length vs)
    (k2 : ∀ (i : Nat) (l : List (List UInt8)) (u : Value), us[i]? = some l → xs[i]? = some u → Own w B' 9 1 u l.length (l.map sv)) (k1 : Own w B' 33 1 x us.length xs) (hB : B ≤ B')
    (hg : w.grownBy w' v.ownBlock) (h' : Own w' B 33 1 v' (ws.length + us.length) (vs ++ xs)) : LL w' B v' (ws ++ us) := by
  have hl : vs.length = ws.length := by have := h1.1; omega
  refine ⟨vs ++ xs, by rw [List.length_append]; exact h', fun i m u a b => ?_⟩
  rcases Nat.lt_or_ge i ws.length with hi | hi
  · rw [List.getElem?_append_left hi] at a
    rw [List.getElem?_append_left (by omega)] at b
    have := h2 i m u a b
    exact this.kept hg (this.ne_ h1 (by decide))
  · rw [List.getElem?_append_right hi] at a
    rw [List.getElem?_append_right (by omega), hl] at b
    have := (k2 _ m u a b).mono hB
    exact this.kept hg (this.ne_ h1 (by decide))
/-- A []int that came in. -/
def ArgI (w : World) (v : Value) (n : Nat) : Prop :=
  ∃ A c, v = .slice A n c ∧ n ≤ maxLen ∧ ∀ k, k < n → ∃ a z, A = some a ∧ a.block < w.heap.size ∧ w.cell? (a.add k) = some (.int .i64 z) ∧ -9223372036854775808 ≤ z ∧ z ≤ 9223372036854775807

/-- Along ReqPieces' loop. -/
def PLoop (w wr : World) (S : List UInt8) (n i : Nat) (got : Value) (rest : List UInt8) (bad : Bool) (at_ : Nat) : Prop :=
  ∃ acc, LL wr w.heap.size got acc ∧ Below w.heap.size w wr ∧ at_ ≤ S.length ∧ rest.length ≤ at_ ∧ acc.length ≤ at_ ∧ Rq.all (S.take at_) = (acc, rest, bad) ∧ ((n < i ∨ 20 ≤ i) → at_ = S.length)
def bcode (b : Bool) : Int := if b = true then 16 else 0
theorem LL.cells {w : World} {B : Nat} {v : Value} {ws : List (List (List UInt8))} {vs : List Value} (h1 : Own w B 33 1 v ws.length vs)
    (h2 : ∀ (i : Nat) (l : List (List UInt8)) (u : Value), ws[i]? = some l → vs[i]? = some u → Own w B 9 1 u l.length (l.map sv)) : ∀ u ∈ vs, u.oneCell' = true := by
  intro u hu
  obtain ⟨i, hi⟩ := List.getElem?_of_mem hu
  have hlt := (List.getElem?_eq_some_iff.1 hi).1
  have hl : vs.length = ws.length := by have := h1.1; omega
  obtain ⟨A, c, rfl⟩ := (h2 i _ u (List.getElem?_eq_getElem (by omega)) hi).sliceForm
  rfl

set_option maxRecDepth 100000 in
set_option maxHeartbeats 8000000 in
theorem reqPieces_walk (v : Value) (np : Nat) (b : ByteArray) (vc : Value) (nc : Nat) (w : World) (hv : ArgP w v np) (hb : b.size ≤ maxLen) (hc : ArgI w vc nc) (hm : Mx w) :
    Calls Try.prog 3 #[v, .string b, vc] w fun e w' => e = .returned (.bool true) ∧ Below w.heap.size w w' := by
  obtain ⟨it, hi', hy0, hy1, hy2⟩ := info_parts strsinfo
  have hrow := row_any v np w hv
  have hcl := List.length_take_le 40 b.data.toList
  have hcut := fun w => cut_any b 40 w hb (by omega)
  obtain ⟨T, hT⟩ : ∃ T, b.data.toList.take 40 = T := ⟨_, rfl⟩
  rw [hT] at hcl hcut
  obtain ⟨Av, nv, cv, rfl⟩ : ∃ A n c, v = .slice A n c := by obtain ⟨A, c, h, _⟩ := hv; exact ⟨A, _, c, h⟩
  obtain ⟨Ac, cc, rfl, hncm, hcc⟩ := hc
  unfold maxLen at hncm
  have HCC := Lib.hid hcc
  clear hT hcc hv
  go_enter Try.func3, Try.ntmps3
  go_wp2_with fail
  refine hrow.mono ?_
  rintro e w1 ⟨s0, rfl, hs0, hb1⟩
  clear hrow
  go_wp2_with fail
  refine (hcut w1).mono ?_
  rintro e w1' ⟨rfl, rfl⟩
  clear hcut
  obtain ⟨S, hS⟩ : ∃ S, s0 ++ T = S := ⟨_, rfl⟩
  have hSl : S.length ≤ 2500 := by rw [← hS, List.length_append]; omega
  have a0 : ∀ w, (Op.stringOp .add (bs s0) (bs T)).run Try.prog w = .ok (sv S) w := fun w => by rw [← hS]; exact add_bs (by omega) w
  obtain ⟨c2, w2, hcv, hob2, hb2⟩ := conv_bytes S w1 (by unfold maxLen; omega)
  rcases hall : Rq.all S with ⟨X, r, bw⟩
  have HALL := Lib.hid hall
  have hXl := (Rq.all_len hall).2.1
  have hbl2 := below_trans hb1 hb2
  clear hS hall
  go_wp2_with fail
  refine (all_ret w2 (BSl.own hob2) (hm.below_ hbl2) (by omega) HALL.out (S.length - r.length : Nat) (bcode bw) rfl rfl).mono ?_
  rintro e w3 ⟨A4, c4, rfl, hL3, hb3⟩
  have hbl3 := below_trans hbl2 hb3
  have HL3 := Lib.hid (show LL w3 w2.heap.size (.slice A4 X.length c4) X from hL3)
  have HB3 := Lib.hid hbl3
  have HP := Lib.hid (show PLoop w3 w3 S nc 0 (.slice none 0 0) [] false 0 from ⟨[], LL.nil _ _, Below.refl _ _, Nat.zero_le _, by simp, by simp, by rw [List.take_zero]; exact Rq.all_part rfl, fun h => by omega⟩)
  clear hcv hob2 hL3 a0 hb1 hb2 hb3 hbl2 hbl3 hXl
  go_wp2_with fail
  go_loopw [11, 12, 13, 14, 15] (fun got rest bad at_ x wr => ∃ (i a' : Nat) (rl : List UInt8) (b' : Bool), x = .int .i64 i ∧ at_ = .int .i64 a' ∧ rest = sv rl ∧ bad = .int .i64 (bcode b') ∧ i ≤ nc + 1 ∧ i ≤ 20 ∧ Hid (PLoop w3 wr S nc i got rl b' a'))
    (fun _ _ _ _ x _ => 21 - (intOf x).toNat)
  case atStart => exact ⟨0, 0, [], false, rfl, rfl, rfl, rfl, by omega, by omega, HP⟩
  case round =>
    clear HP
    obtain ⟨i, a', rl, b', rfl, rfl, rfl, rfl, hi1, hi2, HP⟩ := hrel
    obtain ⟨acc, hG, hbel, hat, hrl, hacc, hpa, hpe⟩ := HP.out
    have hbs := hbel.size
    by_cases hgo : i ≤ nc ∧ i < 20 ∧ b' = false
    · obtain ⟨hg1, hg2, rfl⟩ := hgo
      clear HP
      have i1 : (i : Int) ≤ (nc : Int) := by omega
      have i2 : (i : Int) < 20 := by omega
      obtain ⟨Ag, cg, rfl⟩ := hG.form
      by_cases hc1 : i < nc ∧ i < 19
      · obtain ⟨a, z, rfl, hab, hcz, hz1, hz2⟩ := HCC.out i hc1.1
        have hcell := ((below_trans HB3.out hbel).cell (p := a.add i) (by rw [block_of_add]; exact hab)).trans hcz
        have j1 : (0 : Int) ≤ (i : Int) := by omega
        have j2 : (i : Int) < (nc : Int) := by omega
        have j3 : (i : Int) < 19 := by omega
        have hsz : (bs S).size = S.length := bs_size S
        go_wp2_with fail
        refine (within_ex z a' S.length wr ⟨hz1, hz2⟩ (by omega) (by omega) (by omega)).mono ?_
        rintro e w5 ⟨zk, hzk1, hzk2, rfl, rfl⟩
        obtain ⟨k, rfl⟩ : ∃ k : Nat, zk = (k : Int) := ⟨zk.toNat, by omega⟩
        have hke : (nc < i + 1 ∨ 20 ≤ i + 1) → k = S.length := fun h => by omega
        obtain ⟨P, hP⟩ : ∃ P, (S.drop a').take (k - a') = P := ⟨_, rfl⟩
        have hex : (bs S).extract a' k = bs P := by rw [bs_extract, bs_data, hP]
        have hPl : P.length = k - a' := by rw [← hP, List.length_take, List.length_drop]; omega
        have htk : S.take k = S.take a' ++ P := by
          rw [← hP, ← List.take_append_of_le_length (l₂ := []) (by omega : a' ≤ S.length), List.append_nil]
          rw [show k = a' + (k - a') from by omega, List.take_add]; congr 2; omega
        obtain ⟨R, hR⟩ : ∃ R, rl ++ P = R := ⟨_, rfl⟩
        have hRl : R.length ≤ k := by rw [← hR, List.length_append]; omega
        have a1 : ∀ w, (Op.stringOp .add (bs rl) (bs P)).run Try.prog w = .ok (sv R) w := fun w => by rw [← hR]; exact add_bs (by omega) w
        have hal2 := Rq.all_good (m := P) hpa
        rw [← htk, hR] at hal2
        rcases hall2 : Rq.all R with ⟨x, r5, b5⟩
        rw [hall2] at hal2
        have hl5 := Rq.all_len hall2
        have hl6 := (Rq.all_len hal2).2.1
        rw [List.length_append, List.length_take] at hl6
        have hl7 : acc.length + x.length ≤ k := Nat.le_trans hl6 (Nat.min_le_left _ _)
        have hl8 : r5.length ≤ k := Nat.le_trans hl5.1 hRl
        have HKE := Lib.hid hke
        clear hl6 hke
        have HA2 := Lib.hid hall2
        have HA3 := Lib.hid (show Rq.all (S.take k) = (acc ++ x, r5, b5) from hal2)
        obtain ⟨c5, w6, hcv, hob6, hb6⟩ := conv_bytes R wr (by unfold maxLen; omega)
        have hbl6 := hbel.trans (hb6.mono hbs)
        have hbs6 := hbl6.size
        have hG6 := hG.below_ hb6
        have HR5 := Lib.hid (show (bs R).extract (R.length - r5.length) R.length = bs r5 by
          rw [bs_extract, bs_data, List.take_of_length_le (by rw [List.length_drop]; omega), ← hl5.2.2])
        obtain ⟨m5, hm5⟩ : ∃ m5, R.length - r5.length = m5 := ⟨_, rfl⟩
        rw [hm5] at HR5
        have hm5l : m5 ≤ R.length := by omega
        have HM5 := Lib.hid hm5
        have hRs : (bs R).size = R.length := bs_size R
        have k1 : (0 : Int) ≤ (a' : Int) := by omega
        have k2 : (a' : Int) ≤ (k : Int) := hzk1
        clear hP hR htk hall2 hal2 hl5 hpa hpe hPl hm5
        go_wp2_with fail
        refine (all_ret w6 (BSl.own hob6) (hm.below_ (below_trans HB3.out hbl6)) (by omega) HA2.out m5 (bcode b5) (by rw [HM5.out]) rfl).mono ?_
        rintro e w7 ⟨A7, c7, rfl, hL7, hb7⟩
        have hbl7 := hbl6.trans (hb7.mono hbs6)
        have hbs7 := hbl7.size
        obtain ⟨gs, hGv, hGin⟩ := hG6.below_ hb7
        obtain ⟨ms, hMv, hMin⟩ := hL7
        have k3 : (0 : Int) ≤ (m5 : Int) := by omega
        have k4 : (m5 : Int) ≤ (R.length : Int) := by omega
        have hex2 := HR5.out
        clear hG hG6 hob6 hcv
        go_wp2_with (at_builtin; refine wpList_append_Own _ rfl (.tmp 87) (.tmp 88) _ _ rfl w3.heap.size 33 it _ 1 24 Try.underlying26 hi' hy0 hy1 hy2 rfl (.slice Ag acc.length cg) acc.length gs rfl hGv _ _ _ rfl (Src.own hMv Try.underlying26 (LL.cells hMv hMin) (by decide)) (by unfold maxLen; omega) (by omega) (by omega) ?_; intro v8 w8 hO8 hgr8 hat8)
        have hL8 : LL w8 w3.heap.size v8 (acc ++ x) := LL.app hGin hGv hMin hMv hbs6 hgr8 hO8
        have hbl8 := hbl7.grown hgr8 hbs7 (fun q hq => (hGv.lt q hq).1)
        have HP8 : Hid (PLoop w3 w8 S nc (i + 1) v8 r5 b5 k) := Lib.hid ⟨acc ++ x, hL8, hbl8, by omega, by omega, by rw [List.length_append]; omega, HA3.out, (fun h => by first | exact HKE.out h | rfl)⟩
        go_roundw
        case rel =>
          first
            | exact ⟨i + 1, k, r5, b5, by go_num, rfl, rfl, rfl, by omega, by omega, HP8⟩
            | ((repeat apply Exists.intro); exact ⟨⟨i + 1, k, r5, b5, by go_num, rfl, rfl, rfl, by omega, by omega, HP8⟩, rfl⟩)
        case measure => (simp [intOf]) <;> omega
      · have hke : (nc < i + 1 ∨ 20 ≤ i + 1) → S.length = S.length := fun h => rfl
        have hsz : (bs S).size = S.length := bs_size S
        have hzk1 : (a' : Int) ≤ (S.length : Int) := by omega
        have hzk2 : (S.length : Int) ≤ (S.length : Int) := by omega
        rcases (show i = nc ∨ (i < nc ∧ 19 ≤ i) by omega) with h9 | ⟨h9, h9'⟩
        · have j2 : (nc : Int) ≤ (i : Int) := by omega
          have HI := Lib.hid h9
          clear h9
          obtain ⟨P, hP⟩ : ∃ P, (S.drop a').take (S.length - a') = P := ⟨_, rfl⟩
          have hex : (bs S).extract a' S.length = bs P := by rw [bs_extract, bs_data, hP]
          have hPl : P.length = S.length - a' := by rw [← hP, List.length_take, List.length_drop]; omega
          have htk : S.take S.length = S.take a' ++ P := by
            rw [← hP, ← List.take_append_of_le_length (l₂ := []) (by omega : a' ≤ S.length), List.append_nil]
            rw [show S.length = a' + (S.length - a') from by omega, List.take_add]; congr 2; omega
          obtain ⟨R, hR⟩ : ∃ R, rl ++ P = R := ⟨_, rfl⟩
          have hRl : R.length ≤ S.length := by rw [← hR, List.length_append]; omega
          have a1 : ∀ w, (Op.stringOp .add (bs rl) (bs P)).run Try.prog w = .ok (sv R) w := fun w => by rw [← hR]; exact add_bs (by omega) w
          have hal2 := Rq.all_good (m := P) hpa
          rw [← htk, hR] at hal2
          rcases hall2 : Rq.all R with ⟨x, r5, b5⟩
          rw [hall2] at hal2
          have hl5 := Rq.all_len hall2
          have hl6 := (Rq.all_len hal2).2.1
          rw [List.length_append, List.length_take] at hl6
          have hl7 : acc.length + x.length ≤ S.length := Nat.le_trans hl6 (Nat.min_le_left _ _)
          have hl8 : r5.length ≤ S.length := Nat.le_trans hl5.1 hRl
          have HKE := Lib.hid hke
          clear hl6 hke
          have HA2 := Lib.hid hall2
          have HA3 := Lib.hid (show Rq.all (S.take S.length) = (acc ++ x, r5, b5) from hal2)
          obtain ⟨c5, w6, hcv, hob6, hb6⟩ := conv_bytes R wr (by unfold maxLen; omega)
          have hbl6 := hbel.trans (hb6.mono hbs)
          have hbs6 := hbl6.size
          have hG6 := hG.below_ hb6
          have HR5 := Lib.hid (show (bs R).extract (R.length - r5.length) R.length = bs r5 by
            rw [bs_extract, bs_data, List.take_of_length_le (by rw [List.length_drop]; omega), ← hl5.2.2])
          obtain ⟨m5, hm5⟩ : ∃ m5, R.length - r5.length = m5 := ⟨_, rfl⟩
          rw [hm5] at HR5
          have hm5l : m5 ≤ R.length := by omega
          have HM5 := Lib.hid hm5
          have hRs : (bs R).size = R.length := bs_size R
          have k1 : (0 : Int) ≤ (a' : Int) := by omega
          have k2 : (a' : Int) ≤ (S.length : Int) := hzk1
          clear hP hR htk hall2 hal2 hl5 hpa hpe hPl hm5
          go_wp2_with fail
          refine (all_ret w6 (BSl.own hob6) (hm.below_ (below_trans HB3.out hbl6)) (by omega) HA2.out m5 (bcode b5) (by rw [HM5.out]) rfl).mono ?_
          rintro e w7 ⟨A7, c7, rfl, hL7, hb7⟩
          have hbl7 := hbl6.trans (hb7.mono hbs6)
          have hbs7 := hbl7.size
          obtain ⟨gs, hGv, hGin⟩ := hG6.below_ hb7
          obtain ⟨ms, hMv, hMin⟩ := hL7
          have k3 : (0 : Int) ≤ (m5 : Int) := by omega
          have k4 : (m5 : Int) ≤ (R.length : Int) := by omega
          have hex2 := HR5.out
          clear hG hG6 hob6 hcv
          go_wp2_with (at_builtin; refine wpList_append_Own _ rfl (.tmp 87) (.tmp 88) _ _ rfl w3.heap.size 33 it _ 1 24 Try.underlying26 hi' hy0 hy1 hy2 rfl (.slice Ag acc.length cg) acc.length gs rfl hGv _ _ _ rfl (Src.own hMv Try.underlying26 (LL.cells hMv hMin) (by decide)) (by unfold maxLen; omega) (by omega) (by omega) ?_; intro v8 w8 hO8 hgr8 hat8)
          have hL8 : LL w8 w3.heap.size v8 (acc ++ x) := LL.app hGin hGv hMin hMv hbs6 hgr8 hO8
          have hbl8 := hbl7.grown hgr8 hbs7 (fun q hq => (hGv.lt q hq).1)
          have HP8 : Hid (PLoop w3 w8 S nc (i + 1) v8 r5 b5 S.length) := Lib.hid ⟨acc ++ x, hL8, hbl8, by omega, by omega, by rw [List.length_append]; omega, HA3.out, (fun h => by first | exact HKE.out h | rfl)⟩
          go_roundw
          case rel =>
            first
              | exact ⟨i + 1, S.length, r5, b5, by go_num, rfl, rfl, rfl, by omega, by omega, HP8⟩
              | ((repeat apply Exists.intro); exact ⟨⟨i + 1, S.length, r5, b5, by go_num, rfl, rfl, rfl, by omega, by omega, HP8⟩, rfl⟩)
          case measure => (simp [intOf]) <;> omega
        · have j2 : (i : Int) < (nc : Int) := by omega
          have j3 : (19 : Int) ≤ (i : Int) := by omega
          obtain ⟨P, hP⟩ : ∃ P, (S.drop a').take (S.length - a') = P := ⟨_, rfl⟩
          have hex : (bs S).extract a' S.length = bs P := by rw [bs_extract, bs_data, hP]
          have hPl : P.length = S.length - a' := by rw [← hP, List.length_take, List.length_drop]; omega
          have htk : S.take S.length = S.take a' ++ P := by
            rw [← hP, ← List.take_append_of_le_length (l₂ := []) (by omega : a' ≤ S.length), List.append_nil]
            rw [show S.length = a' + (S.length - a') from by omega, List.take_add]; congr 2; omega
          obtain ⟨R, hR⟩ : ∃ R, rl ++ P = R := ⟨_, rfl⟩
          have hRl : R.length ≤ S.length := by rw [← hR, List.length_append]; omega
          have a1 : ∀ w, (Op.stringOp .add (bs rl) (bs P)).run Try.prog w = .ok (sv R) w := fun w => by rw [← hR]; exact add_bs (by omega) w
          have hal2 := Rq.all_good (m := P) hpa
          rw [← htk, hR] at hal2
          rcases hall2 : Rq.all R with ⟨x, r5, b5⟩
          rw [hall2] at hal2
          have hl5 := Rq.all_len hall2
          have hl6 := (Rq.all_len hal2).2.1
          rw [List.length_append, List.length_take] at hl6
          have hl7 : acc.length + x.length ≤ S.length := Nat.le_trans hl6 (Nat.min_le_left _ _)
          have hl8 : r5.length ≤ S.length := Nat.le_trans hl5.1 hRl
          have HKE := Lib.hid hke
          clear hl6 hke
          have HA2 := Lib.hid hall2
          have HA3 := Lib.hid (show Rq.all (S.take S.length) = (acc ++ x, r5, b5) from hal2)
          obtain ⟨c5, w6, hcv, hob6, hb6⟩ := conv_bytes R wr (by unfold maxLen; omega)
          have hbl6 := hbel.trans (hb6.mono hbs)
          have hbs6 := hbl6.size
          have hG6 := hG.below_ hb6
          have HR5 := Lib.hid (show (bs R).extract (R.length - r5.length) R.length = bs r5 by
            rw [bs_extract, bs_data, List.take_of_length_le (by rw [List.length_drop]; omega), ← hl5.2.2])
          obtain ⟨m5, hm5⟩ : ∃ m5, R.length - r5.length = m5 := ⟨_, rfl⟩
          rw [hm5] at HR5
          have hm5l : m5 ≤ R.length := by omega
          have HM5 := Lib.hid hm5
          have hRs : (bs R).size = R.length := bs_size R
          have k1 : (0 : Int) ≤ (a' : Int) := by omega
          have k2 : (a' : Int) ≤ (S.length : Int) := hzk1
          clear hP hR htk hall2 hal2 hl5 hpa hpe hPl hm5
          go_wp2_with fail
          refine (all_ret w6 (BSl.own hob6) (hm.below_ (below_trans HB3.out hbl6)) (by omega) HA2.out m5 (bcode b5) (by rw [HM5.out]) rfl).mono ?_
          rintro e w7 ⟨A7, c7, rfl, hL7, hb7⟩
          have hbl7 := hbl6.trans (hb7.mono hbs6)
          have hbs7 := hbl7.size
          obtain ⟨gs, hGv, hGin⟩ := hG6.below_ hb7
          obtain ⟨ms, hMv, hMin⟩ := hL7
          have k3 : (0 : Int) ≤ (m5 : Int) := by omega
          have k4 : (m5 : Int) ≤ (R.length : Int) := by omega
          have hex2 := HR5.out
          clear hG hG6 hob6 hcv
          go_wp2_with (at_builtin; refine wpList_append_Own _ rfl (.tmp 87) (.tmp 88) _ _ rfl w3.heap.size 33 it _ 1 24 Try.underlying26 hi' hy0 hy1 hy2 rfl (.slice Ag acc.length cg) acc.length gs rfl hGv _ _ _ rfl (Src.own hMv Try.underlying26 (LL.cells hMv hMin) (by decide)) (by unfold maxLen; omega) (by omega) (by omega) ?_; intro v8 w8 hO8 hgr8 hat8)
          have hL8 : LL w8 w3.heap.size v8 (acc ++ x) := LL.app hGin hGv hMin hMv hbs6 hgr8 hO8
          have hbl8 := hbl7.grown hgr8 hbs7 (fun q hq => (hGv.lt q hq).1)
          have HP8 : Hid (PLoop w3 w8 S nc (i + 1) v8 r5 b5 S.length) := Lib.hid ⟨acc ++ x, hL8, hbl8, by omega, by omega, by rw [List.length_append]; omega, HA3.out, (fun h => by first | exact HKE.out h | rfl)⟩
          go_roundw
          case rel =>
            first
              | exact ⟨i + 1, S.length, r5, b5, by go_num, rfl, rfl, rfl, by omega, by omega, HP8⟩
              | ((repeat apply Exists.intro); exact ⟨⟨i + 1, S.length, r5, b5, by go_num, rfl, rfl, rfl, by omega, by omega, HP8⟩, rfl⟩)
          case measure => (simp [intOf]) <;> omega
    · have hend : a' = S.length ∨ b' = true := by
        rcases (show nc < i ∨ (i ≤ nc ∧ 20 ≤ i) ∨ (i ≤ nc ∧ i < 20 ∧ ¬ b' = false) by
          rcases Nat.lt_or_ge nc i with h | h
          · exact .inl h
          · rcases Nat.lt_or_ge i 20 with h2 | h2
            · exact .inr (.inr ⟨h, h2, fun e => hgo ⟨h, h2, e⟩⟩)
            · exact .inr (.inl ⟨h, h2⟩)) with h | ⟨_, h⟩ | ⟨_, _, h⟩
        · exact .inl (hpe (.inl h))
        · exact .inl (hpe (.inr h))
        · exact .inr (by cases b'; exact absurd rfl h; rfl)
      have hres : Rq.all S = (acc, (Rq.all S).2.1, b') := by
        rcases hend with h | rfl
        · rw [h, List.take_length] at hpa
          rw [hpa]
        · have := Rq.all_bad (m := S.drop a') hpa
          rw [List.take_append_drop] at this
          rw [this]
      rw [HALL.out] at hres
      simp only [Prod.mk.injEq] at hres
      obtain ⟨e1, _, e2⟩ := hres
      subst e1
      subst e2
      have hside : (nc : Int) < (i : Int) ∨ ((i : Int) ≤ (nc : Int) ∧ (20 : Int) ≤ (i : Int)) ∨ ((i : Int) ≤ (nc : Int) ∧ (i : Int) < 20 ∧ bcode bw = 16) := by
        rcases Nat.lt_or_ge nc i with h | h
        · exact .inl (by omega)
        · rcases Nat.lt_or_ge i 20 with h2 | h2
          · exact .inr (.inr ⟨by omega, by omega, by cases bw; exact absurd ⟨h, h2, rfl⟩ hgo; rfl⟩)
          · exact .inr (.inl ⟨by omega, by omega⟩)
      clear hgo hend hpe hpa HP
      have hXs := Lib.hid (show ∀ (j : Nat) (h : j < X.length), X[j].length ≤ maxLen from fun j hj => by
        obtain ⟨vs, k1, k2⟩ := HL3.out
        have hlv : vs.length = X.length := by have := k1.1; omega
        have hO := k2 j X[j] (vs[j]'(by omega)) (List.getElem?_eq_getElem hj) (List.getElem?_eq_getElem (by omega))
        rcases hO.form with ⟨_, h0⟩ | ⟨g, cap, _, _, _, h3, h4⟩
        · rw [h0]; exact Nat.zero_le _
        · exact Nat.le_trans h3 h4)
      obtain ⟨Ag, cg, rfl⟩ := hG.form
      obtain ⟨bb, hbb⟩ : ∃ bb, bcode bw = bb := ⟨_, rfl⟩
      rw [hbb] at hside ⊢
      clear hbb
      have hX' := HL3.out.below_ hbel
      have hbelw := below_trans HB3.out hbel
      rcases hside with h1 | ⟨h1, h2⟩ | ⟨h1, h2, rfl⟩
      all_goals
        go_wp2_with fail
        obtain ⟨wo, rfl⟩ : ∃ wo : World, wo = wr := ⟨_, rfl⟩
        have HG := Lib.hid hG
        have HX := Lib.hid hX'
        clear hX'
        go_loopw [20] (fun x w9 => ∃ j : Nat, j ≤ X.length ∧ x = .int .i64 j ∧ LL w9 w2.heap.size (.slice A4 X.length c4) X ∧ LL w9 w3.heap.size (.slice Ag X.length cg) X ∧ Below w.heap.size w w9) (fun x _ => X.length - (intOf x).toNat)
        case atStart => exact ⟨0, by omega, rfl, HX.out, HG.out, hbelw⟩
        case round =>
          clear HX HG hG hbel hbelw
          obtain ⟨j, hj, rfl, hG, hW, hbl⟩ := hrel
          by_cases hjY : j < X.length
          · obtain ⟨a1, B1, d1, rfl, hc1, hr1⟩ := hG.at_ j hjY
            obtain ⟨a2, B2, d2, rfl, hc2, hr2⟩ := hW.at_ j hjY
            have hls := fun q => lists_same (c1 := d2) (c2 := d1) (wr.drewN q) (hXs.out j hjY) (hr2.drewN q) (hr1.drewN q) (fun x hx => by obtain ⟨s, _, rfl⟩ := List.mem_map.mp hx; exact ⟨_, rfl⟩)
            obtain ⟨m, hm'⟩ : ∃ m, X[j].length = m := ⟨_, rfl⟩
            rw [hm'] at hc1 hc2 hls
            clear hm' hr1 hr2
            have i1 : (0 : Int) ≤ (j : Int) := by omega
            have i2 : (j : Int) < (X.length : Int) := by omega
            go_wp2_with fail
            go_quiet ((go_at_call 12; exact Calls.quiet_of (hls _)))
            go_wp2_with fail
            go_roundw
            case rel =>
              first
                | exact ⟨j + 1, by omega, by go_num, hG, hW, Lib.below_drewN' hbl _⟩
                | ((repeat apply Exists.intro); exact ⟨⟨j + 1, by omega, by go_num, hG, hW, Lib.below_drewN' hbl _⟩, rfl⟩)
            case measure => (simp [intOf]) <;> omega
          · have i2 : (X.length : Int) ≤ (j : Int) := by omega
            go_wp2_with fail
            refine (known_any _ (hm.below_ hbl)).mono ?_
            rintro e w5 ⟨rfl, hb5⟩
            go_wp2_with fail
            go_ret
            exact ⟨rfl, below_trans hbl hb5⟩
end Go.Proofs.Ytjdnpgdedbegfaa
