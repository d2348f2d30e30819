/- The walk of the law ReqBack. -/
import Derived.Test.YtjdnpgdedbegfaaLaw19
import Derived.Outline
namespace Go.Proofs.Ytjdnpgdedbegfaa.Rq
theorem make_len (ls : List B) (m : Nat) (h : ∀ s ∈ ls, s.length ≤ m) : (make ls).length ≤ 24 + ls.length * (m + 26) := by
  have := bulks_len ls m h
  have := (Num.fmt_length (ls.length : Int)).2
  unfold make
  simp only [List.length_cons, List.length_append, List.length_nil]
  omega
theorem all_makes (xs : List (List B)) (h : ∀ x ∈ xs, x.length ≤ 256 ∧ ∀ s ∈ x, s.length ≤ 65536) : all ((xs.map make).flatten) = (xs.filter (fun x => !x.isEmpty), [], false) := by
  induction xs with
  | nil => exact all_part rfl
  | cons x t ih =>
    obtain ⟨h1, h2⟩ := h x (by simp)
    rw [List.map_cons, List.flatten_cons, all_whole (nxt_made x _ h1 h2), ih (fun y hy => h y (by simp [hy]))]
    cases x <;> simp
end Go.Proofs.Ytjdnpgdedbegfaa.Rq
namespace Go.Proofs.Ytjdnpgdedbegfaa
open Go.RowKit Go.Shelf
set_option linter.unusedVariables false

/-- A []string that came in. -/
def Arg1 (w : World) (v : Value) (ls : List (List UInt8)) : Prop :=
  ∃ A c, v = .slice A ls.length c ∧ Reads w w.heap.size 1 A ls.length (ls.map sv) ∧ ls.length ≤ maxLen ∧ ∀ s ∈ ls, s.length ≤ maxLen
/-- A [][]string that came in. -/
def Arg2 (w : World) (v : Value) (ls : List (List (List UInt8))) : Prop :=
  ∃ A c, v = .slice A ls.length c ∧ ls.length ≤ maxLen ∧ ∀ k (hk : k < ls.length), ∃ a u, A = some a ∧ a.block < w.heap.size ∧ w.cell? (a.add k) = some u ∧ Arg1 w u ls[k]
theorem Arg1.below {w w' : World} {v : Value} {ls : List (List UInt8)} (h : Arg1 w v ls) (hb : Below w.heap.size w w') : Arg1 w' v ls := by
  obtain ⟨A, c, h1, h2, h3⟩ := h
  exact ⟨A, c, h1, (h2.keep fun q hq => hb.cell hq).more hb.size, h3⟩
theorem few_arg {v : Value} {ls : List (List UInt8)} (m most : Nat) (w : World) (h : Arg1 w v ls) (hm : m ≤ 1000) (hmost : most ≤ 1000) :
    Calls Try.prog 14 #[v, .int .i64 m, .int .i64 most] w fun e w' => ∃ A c, e = .returned (.slice A (fews ls m most).length c) ∧ Own w' w.heap.size 9 1 (.slice A (fews ls m most).length c) (fews ls m most).length ((fews ls m most).map sv) ∧ Below w.heap.size w w' := by
  obtain ⟨A, c, rfl, h2, h3, h4⟩ := h
  refine (few_any m most w h2 (Nat.le_refl _) h3 h4 hm hmost).mono ?_
  rintro e w' ⟨v, rfl, hO, hb⟩
  obtain ⟨A1, c1, rfl⟩ := hO.sliceForm
  exact ⟨A1, c1, rfl, hO, hb⟩
theorem make_own {B n c : Nat} {A : Option Addr} {ls : List (List UInt8)} (w : World) (h : Own w B 9 1 (.slice A ls.length c) ls.length (ls.map sv)) (hl : ls.length ≤ 256) (hs : ∀ s ∈ ls, s.length ≤ 65536) :
    Calls Try.prog 19 #[.slice A ls.length c] w fun e w' => ∃ A c, e = .returned (.slice A (Rq.make ls).length c) ∧ OB w' w.heap.size 5 (.slice A (Rq.make ls).length c) (Rq.make ls) ∧ Below w.heap.size w w' := by
  refine (make_any w (h.own_reads (Nat.le_refl _)) (Nat.le_refl _) hl hs).mono ?_
  rintro e w' ⟨v, rfl, hO, hb⟩
  obtain ⟨A1, c1, rfl⟩ := hO.sliceForm
  exact ⟨A1, c1, rfl, hO, hb⟩

theorem LL.kept_u8 {w w' : World} {B B' : Nat} {v v' : Value} {ws : List (List (List UInt8))} (h : LL w B v ws) {l : List UInt8} (h' : Own w B' 5 1 v' l.length (bv l)) (hg : w.grownBy w' v'.ownBlock) : LL w' B v ws := by
  obtain ⟨vs, h1, h2⟩ := h
  exact ⟨vs, h1.kept hg (h1.ne_ h' (by decide)), fun i l u a b => (h2 i l u a b).kept hg ((h2 i l u a b).ne_ h' (by decide))⟩

def made (ls : List (List (List UInt8))) (k : Nat) : List (List (List UInt8)) := (ls.take k).map (fun l => fews l 10 60)
theorem made_succ (ls : List (List (List UInt8))) (k : Nat) (hk : k < ls.length) : made ls (k + 1) = made ls k ++ [fews ls[k] 10 60] := by
  unfold made; rw [List.take_succ_eq_append_getElem hk, List.map_append]; rfl
theorem made_ok (ls : List (List (List UInt8))) (k : Nat) : ∀ x ∈ made ls k, x.length ≤ 256 ∧ ∀ s ∈ x, s.length ≤ 65536 := by
  intro x hx
  unfold made at hx
  obtain ⟨l, _, rfl⟩ := List.mem_map.mp hx
  refine ⟨by have := fews_len l 10 60; omega, fun s hs => by have := fews_size s hs; omega⟩
theorem made_len (ls : List (List (List UInt8))) (k : Nat) : ((made ls k).map Rq.make).flatten.length ≤ k * 900 := by
  induction k with
  | zero => simp [made]
  | succ k ih =>
    by_cases hk : k < ls.length
    · rw [made_succ ls k hk]
      have h1 := Rq.make_len (fews ls[k] 10 60) 60 (fun s hs => fews_size s hs)
      have h2 := fews_len ls[k] 10 60
      simp only [List.map_append, List.map_cons, List.map_nil, List.flatten_append, List.flatten_cons, List.flatten_nil, List.append_nil, List.length_append]
      omega
    · have : made ls (k + 1) = made ls k := by unfold made; rw [List.take_of_length_le (l := ls) (i := k + 1) (by omega), List.take_of_length_le (l := ls) (i := k) (by omega)]
      rw [this]; exact Nat.le_trans ih (Nat.mul_le_mul_right _ (Nat.le_succ k))

set_option maxRecDepth 100000 in
set_option maxHeartbeats 8000000 in
theorem reqBack_walk (v : Value) (ls : List (List (List UInt8))) (w : World) (hv : Arg2 w v ls) (hm : Mx w) :
    Calls Try.prog 6 #[v] w fun e w' => e = .returned (.bool true) ∧ Below w.heap.size w w' := by
  obtain ⟨i0, hi, hz0, hz1, hz2⟩ := info_parts u8info
  obtain ⟨it, hi', hy0, hy1, hy2⟩ := info_parts strsinfo
  obtain ⟨A, c, rfl, hlm, hcells⟩ := hv
  obtain ⟨n, hn⟩ : ∃ n, ls.length = n := ⟨_, rfl⟩
  rw [hn] at hlm ⊢
  have HN := Lib.hid hn
  have HC := Lib.hid hcells
  unfold maxLen at hlm
  clear hn hcells
  go_enter Try.func6, Try.ntmps6
  go_wp2_with fail
  go_loopw [3, 4, 5] (fun b u x wr => ∃ k : Nat, k ≤ n ∧ k ≤ 8 ∧ x = .int .i64 k ∧ OB wr w.heap.size 5 b ((made ls k).map Rq.make).flatten ∧ LL wr w.heap.size u ((made ls k).filter (fun x => !x.isEmpty)) ∧ Below w.heap.size w wr) (fun _ _ x _ => n - (intOf x).toNat)
  case atStart => exact ⟨0, by omega, by omega, rfl, OB.nil _ _ _, LL.nil _ _, Below.refl _ _⟩
  case round =>
    obtain ⟨k, hk1, hk2, rfl, hob, hLL, hbel⟩ := hrel
    have hbs : w.heap.size ≤ wr.heap.size := hbel.size
    by_cases hkn : k < n
    · by_cases hk8 : k < 8
      · obtain ⟨a, u, rfl, hab, hcu, harg⟩ := HC.out k (by rw [HN.out]; exact hkn)
        obtain ⟨l, hl⟩ : ∃ l, ls[k]'(by rw [HN.out]; exact hkn) = l := ⟨_, rfl⟩
        rw [hl] at harg
        obtain ⟨x, hx⟩ : ∃ x, fews l 10 60 = x := ⟨_, rfl⟩
        have hsc := made_succ ls k (by rw [HN.out]; exact hkn)
        rw [hl, hx] at hsc
        have hxl := fews_len l 10 60
        have hxs := fews_size (ls := l) (m := 10) (most := 60)
        rw [hx] at hxl hxs
        have hml := Rq.make_len x 60 hxs
        obtain ⟨mk, hmk⟩ : ∃ mk, Rq.make x = mk := ⟨_, rfl⟩
        rw [hmk] at hml
        have hLn := made_len ls k
        obtain ⟨X, hX⟩ : ∃ X, ((made ls k).map Rq.make).flatten = X := ⟨_, rfl⟩
        obtain ⟨Y, hY⟩ : ∃ Y, (made ls k).filter (fun x => !x.isEmpty) = Y := ⟨_, rfl⟩
        have HX := Lib.hid (show ((made ls (k + 1)).map Rq.make).flatten = X ++ mk by rw [hsc]; simp [hX, hmk])
        have HY := Lib.hid (show (made ls (k + 1)).filter (fun x => !x.isEmpty) = if x.isEmpty then Y else Y ++ [x] by rw [hsc, List.filter_append, hY]; cases x <;> simp)
        have hYl : Y.length ≤ k := by
          rw [← hY]
          refine Nat.le_trans (List.length_filter_le _ _) ?_
          unfold made; rw [List.length_map, List.length_take]; omega
        rw [hX] at hob hLn
        rw [hY] at hLL
        have hfew := few_arg (v := u) (ls := l) 10 60 (hm := by omega) (hmost := by omega)
        rw [hx] at hfew
        have hmake := fun B c A w h => make_own (B := B) (c := c) (A := A) (ls := x) (n := 0) w h (by omega) (fun s hs => by have := hxs s hs; omega)
        rw [hmk] at hmake
        clear hl hx hsc hX hY hmk
        have hcell : wr.cell? (a.add k) = some u := (hbel.cell (by rw [block_of_add]; exact hab)).trans hcu
        have harg2 : Arg1 wr u l := harg.below hbel
        obtain ⟨A1, c1, rfl, _⟩ := harg
        obtain ⟨A2, c2, rfl⟩ := OB.sliceForm hob
        obtain ⟨A3, c3, rfl⟩ := hLL.form
        have i1 : (0 : Int) ≤ (k : Int) := by omega
        have i2 : (k : Int) < (n : Int) := by omega
        have i3 : (k : Int) < 8 := by omega
        by_cases hxe : x = []
        · have hxe' : (x.length : Int) ≤ 0 := by rw [hxe]; decide
          have HE := Lib.hid (show x.isEmpty = true by rw [hxe]; rfl)
          clear hxe
          go_wp2_with fail
          refine (hfew wr harg2).mono ?_
          rintro e w1 ⟨A4, c4, rfl, hO1, hb1⟩
          have hob1 := Own.below_ hob hb1
          have hLL1 := hLL.below_ hb1
          have hbel1 := hbel.trans (hb1.mono hbs)
          go_wp2_with fail
          refine (hmake _ _ _ w1 hO1).mono ?_
          rintro e w2 ⟨A5, c5, rfl, hO2, hb2⟩
          have hbs1 := hbel1.size
          have hob2 := Own.below_ hob1 hb2
          have hLL2 := hLL1.below_ hb2
          have hbel2 := hbel1.trans (hb2.mono hbs1)
          have hbs2 := hbel2.size
          have hO1' := (hO1.below_ hb2).mono hbs
          go_wp2_with ((at_builtin; refine wpList_append_Own _ rfl (.tmp 26) (.tmp 28) _ _ rfl w.heap.size 5 i0 _ 1 1 Try.underlying30 hi hz0 hz1 hz2 rfl (.slice A2 X.length c2) X.length (bv X) rfl hob2 _ _ _ rfl (Src.own hO2 Try.underlying30 (bv_one _) (by omega)) (by unfold maxLen; omega) (by omega) (by omega) ?_; intro v1 w3 hOv hgr hat; have hob3 : OB w3 w.heap.size 5 v1 (X ++ mk) := OB.mk hOv (bv_append _ _).symm; have hbel3 := hbel2.grown hgr hbs2 (fun k hk => (hob2.lt k hk).1); have hLL3 := hLL2.kept_u8 hob2 hgr; have hO3 := hO1'.kept hgr (hO1'.ne_ hob2 (by decide)); have hbs3 := hbel3.size; clear hob2 hLL2 hO1'))
          go_roundw
          case rel =>
            first
              | exact ⟨k + 1, by omega, by omega, by go_num, by rw [HX.out]; exact hob3, by rw [HY.out, HE.out]; exact hLL3, hbel3⟩
              | ((repeat apply Exists.intro); exact ⟨⟨k + 1, by omega, by omega, by go_num, by rw [HX.out]; exact hob3, by rw [HY.out, HE.out]; exact hLL3, hbel3⟩, rfl⟩)
          case measure => (simp [intOf]) <;> omega
        · have hxe' : (0 : Int) < (x.length : Int) := by have := List.length_pos_iff.mpr hxe; omega
          have HE := Lib.hid (show x.isEmpty = false by cases x; exact absurd rfl hxe; rfl)
          clear hxe
          go_wp2_with fail
          refine (hfew wr harg2).mono ?_
          rintro e w1 ⟨A4, c4, rfl, hO1, hb1⟩
          have hob1 := Own.below_ hob hb1
          have hLL1 := hLL.below_ hb1
          have hbel1 := hbel.trans (hb1.mono hbs)
          go_wp2_with fail
          refine (hmake _ _ _ w1 hO1).mono ?_
          rintro e w2 ⟨A5, c5, rfl, hO2, hb2⟩
          have hbs1 := hbel1.size
          have hob2 := Own.below_ hob1 hb2
          have hLL2 := hLL1.below_ hb2
          have hbel2 := hbel1.trans (hb2.mono hbs1)
          have hbs2 := hbel2.size
          have hO1' := (hO1.below_ hb2).mono hbs
          obtain ⟨vs0, hLv0, hin0⟩ := hLL2
          have hLL2 : LL w2 w.heap.size (.slice A3 Y.length c3) Y := ⟨vs0, hLv0, hin0⟩
          go_wp2_with (first | (at_builtin; refine wpList_append_Own _ rfl (.tmp 26) (.tmp 28) _ _ rfl w.heap.size 5 i0 _ 1 1 Try.underlying30 hi hz0 hz1 hz2 rfl (.slice A2 X.length c2) X.length (bv X) rfl hob2 _ _ _ rfl (Src.own hO2 Try.underlying30 (bv_one _) (by omega)) (by unfold maxLen; omega) (by omega) (by omega) ?_; intro v1 w3 hOv hgr hat; have hob3 : OB w3 w.heap.size 5 v1 (X ++ mk) := OB.mk hOv (bv_append _ _).symm; have hbel3 := hbel2.grown hgr hbs2 (fun k hk => (hob2.lt k hk).1); have hLL3 := hLL2.kept_u8 hob2 hgr; have hO3 := hO1'.kept hgr (hO1'.ne_ hob2 (by decide)); have hbs3 := hbel3.size; obtain ⟨vs, hLv, hin⟩ := hLL3; clear hob2 hLL2 hO1') | (at_builtin; refine wpList_append_Own _ rfl (.tmp 33) (.tmp 35) _ _ rfl w.heap.size 33 it _ 1 24 Try.underlying26 hi' hy0 hy1 hy2 rfl (.slice A3 Y.length c3) Y.length vs rfl (hLv.alloc _) _ 1 [.slice A4 x.length c4] rfl (Src.own (Own.lit (base := w.heap.size) w3 #[.slice A4 x.length c4] 1 hbs3 (by decide) rfl) Try.underlying26 (by intro v hv; simp at hv; subst hv; rfl) (by decide)) (by unfold maxLen; omega) (by omega) (by simp; omega) ?_; intro v4 w4 hO4 hgr4 hat4))
          have hL4 : LL w4 w.heap.size v4 (Y ++ [x]) := LL.snoc (fun i l u a b => (hin i l u a b).alloc _) (hLv.alloc _) (hO3.alloc _) hgr4 hO4
          have hbel4 : Below w.heap.size w w4 := (hbel3.alloc hbs3 _).grown hgr4 (by simp; omega) (fun k hk => (hLv.lt k hk).1)
          have hob4 : OB w4 w.heap.size 5 v1 (X ++ mk) := Own.kept (Own.alloc hob3 _) hgr4 (Own.ne_ hob3 hLv (by decide))
          go_roundw
          case rel =>
            first
              | exact ⟨k + 1, by omega, by omega, by go_num, by rw [HX.out]; exact hob4, by rw [HY.out, HE.out]; exact hL4, hbel4⟩
              | ((repeat apply Exists.intro); exact ⟨⟨k + 1, by omega, by omega, by go_num, by rw [HX.out]; exact hob4, by rw [HY.out, HE.out]; exact hL4, hbel4⟩, rfl⟩)
          case measure => (simp [intOf]) <;> omega
      · have i3 : (8 : Int) ≤ (k : Int) := by omega
        have i2 : (k : Int) < (n : Int) := by omega
        obtain ⟨X, hX⟩ : ∃ X, ((made ls k).map Rq.make).flatten = X := ⟨_, rfl⟩
        obtain ⟨Y, hY⟩ : ∃ Y, (made ls k).filter (fun x => !x.isEmpty) = Y := ⟨_, rfl⟩
        have hLn := made_len ls k
        have HAll := Lib.hid (show Rq.all X = (Y, [], false) by rw [← hX, ← hY]; exact Rq.all_makes _ (made_ok ls k))
        rw [hX] at hob hLn
        rw [hY] at hLL
        have hYl : Y.length ≤ k := by
          rw [← hY]
          refine Nat.le_trans (List.length_filter_le _ _) ?_
          unfold made; rw [List.length_map, List.length_take]; omega
        have hYs := Lib.hid (show ∀ (j : Nat) (h : j < Y.length), Y[j].length ≤ 256 from fun j hj => (made_ok ls k _ (List.mem_filter.mp (show Y[j] ∈ (made ls k).filter (fun x => !x.isEmpty) by rw [hY]; exact List.getElem_mem hj)).1).1)
        clear hX hY
        have hXl : X.length ≤ 1048576 := by omega
        obtain ⟨A2, c2, rfl⟩ := OB.sliceForm hob
        obtain ⟨A3, c3, rfl⟩ := hLL.form
        have hmr := hm.below_ hbel
        go_wp2_with fail
        refine (all_ret _ (BSl.own hob) hmr hXl HAll.out X.length 0 (by simp) rfl).mono ?_
        rintro e w1 ⟨A4, c4, rfl, hL1, hb1⟩
        have hL2 := hLL.below_ hb1
        have hbel1 := hbel.trans (hb1.mono hbs)
        have hL1' : LL w1 wr.heap.size (.slice A4 Y.length c4) Y := hL1
        clear hL1 hLL
        have HB1 := Lib.hid hbel1
        clear hob hb1 hbel1
        obtain ⟨wo, rfl⟩ : ∃ wo : World, wo = wr := ⟨_, rfl⟩
        go_wp2_with fail
        go_loopw [10] (fun x w3 => ∃ j : Nat, j ≤ Y.length ∧ x = .int .i64 j ∧ LL w3 wo.heap.size (.slice A4 Y.length c4) Y ∧ LL w3 w.heap.size (.slice A3 Y.length c3) Y ∧ Below w.heap.size w w3) (fun x _ => Y.length - (intOf x).toNat)
        case atStart => exact ⟨0, by omega, rfl, hL1', hL2, HB1.out⟩
        case round =>
          clear hL1' hL2 HB1
          obtain ⟨j, hj, rfl, hG, hW, hbl⟩ := hrel
          by_cases hjY : j < Y.length
          · obtain ⟨a1, B1, d1, rfl, hc1, hr1⟩ := hG.at_ j hjY
            obtain ⟨a2, B2, d2, rfl, hc2, hr2⟩ := hW.at_ j hjY
            have hls := fun q => lists_same (c1 := d1) (c2 := d2) (wr.drewN q) (by have := hYs.out j hjY; unfold maxLen; omega) (hr1.drewN q) (hr2.drewN q) (fun x hx => by obtain ⟨s, _, rfl⟩ := List.mem_map.mp hx; exact ⟨_, rfl⟩)
            obtain ⟨m, hm⟩ : ∃ m, Y[j].length = m := ⟨_, rfl⟩
            rw [hm] at hc1 hc2 hls
            clear hm hr1 hr2
            have i1 : (0 : Int) ≤ (j : Int) := by omega
            have i2 : (j : Int) < (Y.length : Int) := by omega
            go_wp2_with fail
            go_quiet ((go_at_call 12; exact Calls.quiet_of (hls _)))
            go_wp2_with fail
            go_roundw
            case rel =>
              first
                | exact ⟨j + 1, by omega, by go_num, hG, hW, Lib.below_drewN' hbl _⟩
                | ((repeat apply Exists.intro); exact ⟨⟨j + 1, by omega, by go_num, hG, hW, Lib.below_drewN' hbl _⟩, rfl⟩)
            case measure => (simp [intOf]) <;> omega
          · have i2 : (Y.length : Int) ≤ (j : Int) := by omega
            go_wp2_with fail
            refine (known_any _ (hm.below_ hbl)).mono ?_
            rintro e w5 ⟨rfl, hb5⟩
            go_wp2_with fail
            go_ret
            exact ⟨rfl, below_trans hbl hb5⟩
    · have i2 : (n : Int) ≤ (k : Int) := by omega
      obtain ⟨X, hX⟩ : ∃ X, ((made ls k).map Rq.make).flatten = X := ⟨_, rfl⟩
      obtain ⟨Y, hY⟩ : ∃ Y, (made ls k).filter (fun x => !x.isEmpty) = Y := ⟨_, rfl⟩
      have hLn := made_len ls k
      have HAll := Lib.hid (show Rq.all X = (Y, [], false) by rw [← hX, ← hY]; exact Rq.all_makes _ (made_ok ls k))
      rw [hX] at hob hLn
      rw [hY] at hLL
      have hYl : Y.length ≤ k := by
        rw [← hY]
        refine Nat.le_trans (List.length_filter_le _ _) ?_
        unfold made; rw [List.length_map, List.length_take]; omega
      have hYs := Lib.hid (show ∀ (j : Nat) (h : j < Y.length), Y[j].length ≤ 256 from fun j hj => (made_ok ls k _ (List.mem_filter.mp (show Y[j] ∈ (made ls k).filter (fun x => !x.isEmpty) by rw [hY]; exact List.getElem_mem hj)).1).1)
      clear hX hY
      have hXl : X.length ≤ 1048576 := by omega
      obtain ⟨A2, c2, rfl⟩ := OB.sliceForm hob
      obtain ⟨A3, c3, rfl⟩ := hLL.form
      have hmr := hm.below_ hbel
      go_wp2_with fail
      refine (all_ret _ (BSl.own hob) hmr hXl HAll.out X.length 0 (by simp) rfl).mono ?_
      rintro e w1 ⟨A4, c4, rfl, hL1, hb1⟩
      have hL2 := hLL.below_ hb1
      have hbel1 := hbel.trans (hb1.mono hbs)
      have hL1' : LL w1 wr.heap.size (.slice A4 Y.length c4) Y := hL1
      clear hL1 hLL
      have HB1 := Lib.hid hbel1
      clear hob hb1 hbel1
      obtain ⟨wo, rfl⟩ : ∃ wo : World, wo = wr := ⟨_, rfl⟩
      go_wp2_with fail
      go_loopw [10] (fun x w3 => ∃ j : Nat, j ≤ Y.length ∧ x = .int .i64 j ∧ LL w3 wo.heap.size (.slice A4 Y.length c4) Y ∧ LL w3 w.heap.size (.slice A3 Y.length c3) Y ∧ Below w.heap.size w w3) (fun x _ => Y.length - (intOf x).toNat)
      case atStart => exact ⟨0, by omega, rfl, hL1', hL2, HB1.out⟩
      case round =>
        clear hL1' hL2 HB1
        obtain ⟨j, hj, rfl, hG, hW, hbl⟩ := hrel
        by_cases hjY : j < Y.length
        · obtain ⟨a1, B1, d1, rfl, hc1, hr1⟩ := hG.at_ j hjY
          obtain ⟨a2, B2, d2, rfl, hc2, hr2⟩ := hW.at_ j hjY
          have hls := fun q => lists_same (c1 := d1) (c2 := d2) (wr.drewN q) (by have := hYs.out j hjY; unfold maxLen; omega) (hr1.drewN q) (hr2.drewN q) (fun x hx => by obtain ⟨s, _, rfl⟩ := List.mem_map.mp hx; exact ⟨_, rfl⟩)
          obtain ⟨m, hm⟩ : ∃ m, Y[j].length = m := ⟨_, rfl⟩
          rw [hm] at hc1 hc2 hls
          clear hm hr1 hr2
          have i1 : (0 : Int) ≤ (j : Int) := by omega
          have i2 : (j : Int) < (Y.length : Int) := by omega
          go_wp2_with fail
          go_quiet ((go_at_call 12; exact Calls.quiet_of (hls _)))
          go_wp2_with fail
          go_roundw
          case rel =>
            first
              | exact ⟨j + 1, by omega, by go_num, hG, hW, Lib.below_drewN' hbl _⟩
              | ((repeat apply Exists.intro); exact ⟨⟨j + 1, by omega, by go_num, hG, hW, Lib.below_drewN' hbl _⟩, rfl⟩)
          case measure => (simp [intOf]) <;> omega
        · have i2 : (Y.length : Int) ≤ (j : Int) := by omega
          go_wp2_with fail
          refine (known_any _ (hm.below_ hbl)).mono ?_
          rintro e w5 ⟨rfl, hb5⟩
          go_wp2_with fail
          go_ret
          exact ⟨rfl, below_trans hbl hb5⟩
end Go.Proofs.Ytjdnpgdedbegfaa
