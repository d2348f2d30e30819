/- The walks of the library's sort over rows of pairs, by the order of their replies. -/
import Derived.Test.YtjefpnhffdeekaaRplI
namespace Go.Proofs.Ytjefpnhffdeekaa
open Go.RowKit
set_option linter.unusedVariables false

set_option maxRecDepth 100000 in
theorem cmp2_any (l m : List Rep) (v u : Value) (w : World) (hl : LivL w v l) (hm : LivL w u m) :
    Calls Try.prog 17 #[v, u] w fun e w' => e = .returned (.int .i64 (ords (l.map Rep.norm) (m.map Rep.norm))) ∧ Below w.heap.size w w' := by
  have HC := Lib.hid (cmpf_any l m v u w hl hm (fun a _ => cmp_any _ a (Nat.le_refl _)))
  obtain ⟨A, c, xs, rfl, _⟩ := hl
  obtain ⟨A', c', xs', rfl, _⟩ := hm
  obtain ⟨o, ho⟩ : ∃ o, ords (l.map Rep.norm) (m.map Rep.norm) = o := ⟨_, rfl⟩
  rw [ho] at HC ⊢
  clear ho
  go_enter Try.func17, Try.ntmps17
  go_wp2_with fail
  refine HC.out.mono ?_
  rintro e w1 ⟨rfl, hb⟩
  go_wp2_with fail
  go_ret
  exact ⟨rfl, hb⟩
theorem ltpo_neg (a b : List Rep) : ltpo a b = decide (ords (a.map Rep.norm) (b.map Rep.norm) < 0) := rfl

theorem PR.drew {w : World} {B : Nat} {v : Value} {ps : List (List Rep)} (h : PR w B v ps) : PR w.drew B v ps := h.below (Below.refl _ _).drew
theorem PR.split {w : World} {B n g cap : Nat} {P Q : List (List Rep)} {y x : List Rep} (hn : (P ++ y :: x :: Q).length = n) (h : PR w B (.slice (some ⟨g, 0, none⟩) n cap) (P ++ y :: x :: Q)) :
    ∃ uy ux vp vq, Own w B 23 1 (.slice (some ⟨g, 0, none⟩) n cap) n (vp ++ uy :: ux :: vq) ∧ vp.length = P.length ∧
      (∀ (i : Nat) (u : Value) (p : List Rep), (vp ++ uy :: ux :: vq)[i]? = some u → (P ++ y :: x :: Q)[i]? = some p → LivS w (fun b => B ≤ b ∧ b < w.heap.size ∧ b ≠ g) u p) ∧
      LivS w (fun b => B ≤ b ∧ b < w.heap.size ∧ b ≠ g) uy y ∧ LivS w (fun b => B ≤ b ∧ b < w.heap.size ∧ b ≠ g) ux x ∧ P.length + 2 ≤ n ∧
      (w.cell? ⟨g, P.length, none⟩ = some uy ∧ w.cell? ⟨g, P.length + 1, none⟩ = some ux) ∧ (w.frozen? ⟨g, P.length, none⟩ = false ∧ w.frozen? ⟨g, P.length + 1, none⟩ = false) := by
  subst hn
  obtain ⟨vs, h1, h2⟩ := h
  have h2' : ∀ (i : Nat) (u : Value) (p : List Rep), vs[i]? = some u → (P ++ y :: x :: Q)[i]? = some p → LivS w (fun b => B ≤ b ∧ b < w.heap.size ∧ b ≠ g) u p := fun i u p hu hp =>
    (h2 i u p hu hp).keep (fun _ _ => rfl) (fun b hb => ⟨hb.1, hb.2.1, fun e => hb.2.2 (by rw [e]; rfl)⟩)
  have hl := h1.1
  simp only [List.length_append, List.length_cons, Nat.mul_one] at hl
  have k1 : P.length < vs.length := by omega
  have k2 : P.length + 1 < vs.length := by omega
  have e : vs = vs.take P.length ++ vs[P.length] :: vs[P.length + 1] :: vs.drop (P.length + 2) := by
    conv => lhs; rw [← List.take_append_drop P.length vs, List.drop_eq_getElem_cons k1, List.drop_eq_getElem_cons k2]
  have c1 := h1.cellAt P.length (by simp)
  have c2 := h1.cellAt (P.length + 1) (by simp)
  rw [List.getElem?_eq_getElem k1] at c1
  rw [List.getElem?_eq_getElem k2] at c2
  refine ⟨vs[P.length], vs[P.length + 1], vs.take P.length, vs.drop (P.length + 2), by rw [← e]; exact h1, by rw [List.length_take]; omega, fun i u p hu hp => h2' i u p (by rw [e]; exact hu) hp,
    h2' P.length _ y (List.getElem?_eq_getElem k1) (by simp), h2' (P.length + 1) _ x (List.getElem?_eq_getElem k2) (by rw [List.getElem?_append_right (by omega)]; simp), by simp, ⟨c1, c2⟩, h1.frozenAt _ (by simp), h1.frozenAt _ (by simp)⟩
theorem PR.swapped {wr w3 : World} {B n g cap : Nat} {P Q : List (List Rep)} {y x : List Rep} {uy ux : Value} {vp vq : List Value} (hn : (P ++ y :: x :: Q).length = n) (hb : Below wr.heap.size wr w3)
    (h1 : Own wr B 23 1 (.slice (some ⟨g, 0, none⟩) n cap) n (vp ++ uy :: ux :: vq)) (hp : vp.length = P.length)
    (h2 : ∀ (i : Nat) (u : Value) (p : List Rep), (vp ++ uy :: ux :: vq)[i]? = some u → (P ++ y :: x :: Q)[i]? = some p → LivS wr (fun b => B ≤ b ∧ b < wr.heap.size ∧ b ≠ g) u p)
    (hy : LivS wr (fun b => B ≤ b ∧ b < wr.heap.size ∧ b ≠ g) uy y) (hx : LivS wr (fun b => B ≤ b ∧ b < wr.heap.size ∧ b ≠ g) ux x) :
    PR ((w3.setCell ⟨g, P.length + 1, none⟩ uy).setCell ⟨g, P.length, none⟩ ux) B (.slice (some ⟨g, 0, none⟩) n cap) (P ++ x :: y :: Q) := by
  subst hn
  have h3 := ((h1.below_ hb).stored (P.length + 1) uy).stored P.length ux
  have e : ((vp ++ uy :: ux :: vq).set (P.length + 1) uy).set P.length ux = vp ++ ux :: uy :: vq := by
    rw [← hp, List.set_append_right _ _ (by omega), List.set_append_right _ _ (by omega)]; simp
  rw [e] at h3
  have hk : ∀ p : Addr, (B ≤ p.block ∧ p.block < wr.heap.size ∧ p.block ≠ g) → ((w3.setCell ⟨g, P.length + 1, none⟩ uy).setCell ⟨g, P.length, none⟩ ux).cell? p = wr.cell? p := fun p hp' => by
    rw [World.cell?_setCell_far _ _ _ _ (fun e => hp'.2.2 e.symm), World.cell?_setCell_far _ _ _ _ (fun e => hp'.2.2 e.symm)]; exact hb.cell hp'.2.1
  have hm : ∀ b, (B ≤ b ∧ b < wr.heap.size ∧ b ≠ g) → (B ≤ b ∧ b < ((w3.setCell ⟨g, P.length + 1, none⟩ uy).setCell ⟨g, P.length, none⟩ ux).heap.size ∧ some b ≠ (Value.slice (some ⟨g, 0, none⟩) (P ++ y :: x :: Q).length cap).ownBlock) := fun b hb' => by
    rw [World.size_setCell, World.size_setCell]; exact ⟨hb'.1, Nat.lt_of_lt_of_le hb'.2.1 hb.size, fun e => hb'.2.2 (by simpa [Value.ownBlock] using e)⟩
  refine ⟨vp ++ ux :: uy :: vq, by have : (P ++ x :: y :: Q).length = (P ++ y :: x :: Q).length := by simp
                                   rw [this]; exact h3, fun i u p hu hq => ?_⟩
  rcases (show i < P.length ∨ i = P.length ∨ i = P.length + 1 ∨ P.length + 2 ≤ i by omega) with hi | hi | hi | hi
  · rw [List.getElem?_append_left (by omega)] at hu hq
    exact (h2 i u p (by rw [List.getElem?_append_left (by omega)]; exact hu) (by rw [List.getElem?_append_left (by omega)]; exact hq)).keep hk hm
  · subst hi
    rw [← hp, List.getElem?_append_right (Nat.le_refl _)] at hu
    rw [List.getElem?_append_right (Nat.le_refl _)] at hq
    simp at hu hq; subst hu hq
    exact hx.keep hk hm
  · subst hi
    rw [← hp, List.getElem?_append_right (by omega)] at hu
    rw [List.getElem?_append_right (by omega)] at hq
    simp at hu hq; subst hu hq
    exact hy.keep hk hm
  · have e2 : ∃ m, i - P.length = m + 2 := ⟨i - P.length - 2, by omega⟩
    obtain ⟨m, hm2⟩ := e2
    refine (h2 i u p ?_ ?_).keep hk hm
    · rw [List.getElem?_append_right (by omega), hp, hm2] at hu ⊢; exact hu
    · rw [List.getElem?_append_right (by omega), hm2] at hq ⊢; exact hq

set_option maxRecDepth 100000 in
set_option maxHeartbeats 8000000 in
theorem inssort2_any {B g n cap : Nat} (acc : List (List Rep)) (w : World) (hor : PR w B (.slice (some ⟨g, 0, none⟩) n cap) acc) (hn : acc.length = n) (hn1 : n ≤ 1000) :
    Calls Try.prog 41 #[.slice (some ⟨g, 0, none⟩) n cap, .int .i64 0, .int .i64 n, .func (.func 17) #[] #[]] w fun e w' => e = .returned (.tuple #[]) ∧ PR w' B (.slice (some ⟨g, 0, none⟩) n cap) (isort ltpo acc) ∧ w.grownBy w' (some g) := by
  have HN := Lib.hid hn
  have HO := Lib.hid hor
  obtain ⟨a0, ha0⟩ : ∃ a : Addr, (⟨g, 0, none⟩ : Addr) = a := ⟨_, rfl⟩
  have HA := Lib.hid ha0
  have HA4 := Lib.hid (fun k : Nat => (show a0.add k = ⟨g, k, none⟩ by rw [← ha0, spot_add rfl]; simp))
  have HA5 := Lib.hid (fun k : Nat => (show (⟨a0.block, a0.off + k, none⟩ : Addr) = ⟨g, k, none⟩ by rw [← ha0]; simp))
  rw [show (Value.slice (some ⟨g, 0, none⟩) n cap) = Value.slice (some a0) n cap by rw [ha0]]
  clear hn hor ha0
  go_enter Try.func41, Try.ntmps41
  go_wp2_with fail
  go_loopw [8] (fun x wr => ∃ (i : Nat) (X : List (List Rep)), x = .int .i64 (i : Nat) ∧ 1 ≤ i ∧ Hid (Ins ltpo acc X i) ∧ PR wr B (.slice (some ⟨g, 0, none⟩) n cap) X ∧ w.grownBy wr (some g)) (fun x _ => n - (nOf x).toNat)
  case atStart => exact ⟨1, acc, rfl, Nat.le_refl _, Lib.hid Ins.start, HO.out, World.grownBy.refl _ _⟩
  case round =>
    obtain ⟨i, X, rfl, hi1, HI, hor, hgr⟩ := hrel
    have HR := Lib.hid hor
    have HG := Lib.hid hgr
    clear hor hgr
    by_cases hin : i < n
    · have i1 : (i : Int) < (n : Int) := by omega
      have HS := Lib.hid (HI.out.sink (by rw [HN.out]; exact hin))
      go_wp2_with fail
      go_loopw [9] (fun x wr => ∃ (j : Nat) (X : List (List Rep)), x = .int .i64 (j : Nat) ∧ Hid (Sink ltpo acc X i j) ∧ PR wr B (.slice (some ⟨g, 0, none⟩) n cap) X ∧ w.grownBy wr (some g)) (fun x _ => (nOf x).toNat)
      case atStart => exact ⟨i, X, rfl, HS, HR.out, HG.out⟩
      case round =>
        obtain ⟨j, X2, rfl, HS2, hor2, hgr2⟩ := hrel
        have HR2 := Lib.hid hor2
        have HG2 := Lib.hid hgr2
        clear hor2 hgr2
        cases j with
        | zero =>
          have HI2 := Lib.hid HS2.out.zero
          go_wp2_with fail
          go_region
          go_wp2_with fail
          go_roundw
          case rel => exact ⟨i + 1, X2, by go_num, by omega, HI2, by first | exact HR2.out | exact HR2.out.drew, by first | exact HG2.out | exact grown_drew HG2.out⟩
          case measure => simp [nOf]; omega
        | succ j =>
          obtain ⟨P, y, x, Q, rfl, hP, hs1, hs2⟩ := HS2.out.step
          have hXn := HS2.out.len
          rw [HN.out] at hXn
          obtain ⟨uy, ux, vp, vq, hown, hvp, hall, hly, hlx, hjn, ⟨ca, cb⟩, hfz⟩ := HR2.out.split hXn
          rw [hP] at hjn ca cb hfz
          have i2 : (0 : Int) < (j : Int) + 1 := by omega
          have HH1 := Lib.hid hs1
          have HH2 := Lib.hid hs2
          have HOWN := Lib.hid hown
          have HFZ := Lib.hid hfz
          have HVP := Lib.hid hvp
          have HALL := Lib.hid hall
          have HLY := Lib.hid hly
          have HLX := Lib.hid hlx
          have HpP := Lib.hid hP
          obtain ⟨Ay, cy, _, euy, _⟩ := id hly
          obtain ⟨Ax, cx, _, eux, _⟩ := id hlx
          have hg := (hown.lt g rfl).2
          have HK := Lib.hid (fun w' (hb : Below wr.heap.size wr w') => (show Below wr.heap.size wr w' ∧ w'.cell? (a0.add j) = some uy ∧ w'.cell? ⟨a0.block, a0.off + (j + 1), none⟩ = some ux from by
            have e5 : (⟨a0.block, a0.off + (j + 1), none⟩ : Addr) = ⟨g, j + 1, none⟩ := HA5.out _
            rw [HA4.out, e5]
            exact ⟨hb, (hb.cell (p := ⟨g, j, none⟩) hg).trans ca, (hb.cell (p := ⟨g, j + 1, none⟩) hg).trans cb⟩))
          have HC := Lib.hid (fun w' (hb : Below wr.heap.size wr w') => cmp2_any x y ux uy w' ((HLX.out.livL (fun b hb => hb.2.1)).below hb) ((HLY.out.livL (fun b hb => hb.2.1)).below hb))
          subst euy eux
          clear hs1 hs2 hown hfz hvp hall hly hlx hP
          have hS0 : Below wr.heap.size wr wr := Below.refl _ _
          obtain ⟨o, ho⟩ : ∃ o, ords (x.map Rep.norm) (y.map Rep.norm) = o := ⟨_, rfl⟩
          rw [ho] at HC
          have HLT := Lib.hid (show ltpo x y = decide (o < 0) by rw [ltpo_neg, ho])
          have j1 : (j : Int) + 1 < (n : Int) := by omega
          have j2 : (j : Int) < (n : Int) := by omega
          have j3 : (0 : Int) ≤ (j : Int) := by omega
          have j4 : j < n := by omega
          have j5 : j + 1 < n := by omega
          have j6 : (0 : Int) ≤ (j : Int) + 1 := by omega
          have j7 : IntKind.i64.wrap (j : Int) = (j : Int) := wrap_small _ (by omega) (by omega)
          clear ca cb ho
          by_cases hneg : o < 0
          · have HS3 := Lib.hid (HH1.out (by rw [HLT.out]; exact decide_eq_true hneg))
            go_wp2_with fail
            go_region_held (fun w' => Below wr.heap.size wr w' ∧ w'.cell? (a0.add j) = some (.slice Ay y.length cy) ∧ w'.cell? ⟨a0.block, a0.off + (j + 1), none⟩ = some (.slice Ax x.length cx))
              (first | exact HK.out _ hS0 | exact HK.out _ hS0.drew)
              (first
                | (go_at_call 17; refine (HC.out _ (by first | exact hS0 | exact hS0.drew)).mono ?_; rintro e w3 ⟨rfl, hb3⟩; have hS0 := below_trans (by first | exact hS0 | exact hS0.drew) hb3))
            obtain ⟨_, c0, c1⟩ := HK.out w3 hS0
            have z0 : w3.frozen? (a0.add j) = false := by rw [HA4.out]; exact (hS0.frozen (p := ⟨g, j, none⟩) hg).trans HFZ.out.1
            have z1 : w3.frozen? ⟨a0.block, a0.off + (j + 1), none⟩ = false := by rw [HA5.out]; exact (hS0.frozen (p := ⟨g, j + 1, none⟩) hg).trans HFZ.out.2
            have s1 : (w3.setCell ⟨a0.block, a0.off + (j + 1), none⟩ (.slice Ay y.length cy)).cell? (a0.add j) = some (.slice Ay y.length cy) := (World.cell?_setCell_other _ _ _ _ (by rw [HA4.out, HA5.out]; simp)).trans c0
            have HS0 := Lib.hid hS0
            clear hS0
            go_wp2_with fail
            go_region
            have hW4 : (w3.setCell ⟨a0.block, a0.off + (j + 1), none⟩ (.slice Ay y.length cy)).setCell (a0.add j) (.slice Ax x.length cx) = (w3.setCell ⟨g, P.length + 1, none⟩ (.slice Ay y.length cy)).setCell ⟨g, P.length, none⟩ (.slice Ax x.length cx) := by
              rw [HA4.out, HA5.out, HpP.out]
            rw [hW4]
            have HOR4 := Lib.hid (PR.swapped hXn HS0.out HOWN.out HVP.out HALL.out HLY.out HLX.out)
            have HGR4 := Lib.hid (grown_set (grown_set (grown_below HG2.out HS0.out) (P.length + 1) (.slice Ay y.length cy)) P.length (.slice Ax x.length cx))
            clear hW4 s1 c0 c1 z0 z1
            generalize (w3.setCell ⟨g, P.length + 1, none⟩ (.slice Ay y.length cy)).setCell ⟨g, P.length, none⟩ (.slice Ax x.length cx) = W4 at HOR4 HGR4 ⊢
            go_wp2_with fail
            go_roundw
            case rel => exact ⟨j, _, by first | rfl | go_num, HS3, by first | exact HOR4.out.drew | exact HOR4.out, by first | exact grown_drew HGR4.out | exact HGR4.out⟩
            case measure => simp [nOf]
          · have HS3 := Lib.hid (HH2.out (by rw [HLT.out]; exact decide_eq_false hneg))
            go_wp2_with fail
            go_region_held (fun w' => Below wr.heap.size wr w' ∧ w'.cell? (a0.add j) = some (.slice Ay y.length cy) ∧ w'.cell? ⟨a0.block, a0.off + (j + 1), none⟩ = some (.slice Ax x.length cx))
              (first | exact HK.out _ hS0 | exact HK.out _ hS0.drew)
              (first
                | (go_at_call 17; refine (HC.out _ (by first | exact hS0 | exact hS0.drew)).mono ?_; rintro e w3 ⟨rfl, hb3⟩; have hS0 := below_trans (by first | exact hS0 | exact hS0.drew) hb3))
            go_wp2_with fail
            go_roundw
            case rel => exact ⟨i + 1, _, by go_num, by omega, HS3, HR2.out.below hS0, grown_below HG2.out hS0⟩
            case measure => simp [nOf]; omega
    · have i1 : ¬ (i : Int) < (n : Int) := by omega
      have HE := Lib.hid (HI.out.end_ (by rw [HN.out]; omega))
      go_wp2_with fail
      refine bodyPost_end (results_none rfl _ _ _) rfl ?_
      exact ⟨rfl, by rw [← HA.out, ← HE.out]; exact HR.out, HG.out⟩
set_option maxRecDepth 100000 in
theorem inssort2_nil (w : World) :
    Calls Try.prog 41 #[.slice none 0 0, .int .i64 0, .int .i64 0, .func (.func 17) #[] #[]] w fun e w' => e = .returned (.tuple #[]) ∧ w = w' := by
  go_enter Try.func41, Try.ntmps41
  go_wp2_with fail
  refine wp_loop_rounds 1 ?_
  rw [rounds_succ]
  go_wp2_with fail
  refine bodyPost_end (results_none rfl _ _ _) rfl ?_
  exact ⟨rfl, rfl⟩
theorem inssort2_or {B n : Nat} {v : Value} (acc : List (List Rep)) (w : World) (hor : PR w B v acc) (hn : acc.length = n) (hn1 : n ≤ 19) :
    Calls Try.prog 41 #[v, .int .i64 0, .int .i64 n, .func (.func 17) #[] #[]] w fun e w' => e = .returned (.tuple #[]) ∧ PR w' B v (isort ltpo acc) ∧ w.grownBy w' v.ownBlock := by
  subst hn
  obtain ⟨xs, h1, h2⟩ := id hor
  rcases h1.form with ⟨rfl, h0⟩ | ⟨g, cap, rfl, _⟩
  · rw [h0]
    refine (inssort2_nil w).mono ?_
    rintro e w' ⟨rfl, rfl⟩
    have : acc = [] := List.eq_nil_of_length_eq_zero h0
    subst this
    exact ⟨rfl, hor, World.grownBy.refl _ _⟩
  · exact inssort2_any acc w hor rfl (by omega)

set_option maxRecDepth 100000 in
set_option maxHeartbeats 2000000 in
theorem stable2_or {B n : Nat} {v : Value} (acc : List (List Rep)) (w : World) (hor : PR w B v acc) (hn : acc.length = n) (hn1 : n ≤ 19) :
    Calls Try.prog 32 #[v, .int .i64 n, .func (.func 17) #[] #[]] w fun e w' => e = .returned (.tuple #[]) ∧ PR w' B v (isort ltpo acc) ∧ w.grownBy w' v.ownBlock := by
  obtain ⟨A, c, rfl⟩ := hor.form
  have HC := Lib.hid (inssort2_or acc w hor hn hn1)
  have i1 : ¬ (20 : Int) ≤ (n : Int) := by omega
  have i2 : ¬ (20 : Int) < (n : Int) := by omega
  rw [hn] at HC ⊢
  clear hor hn
  go_enter Try.func32, Try.ntmps32
  go_wp2_with fail
  refine wp_loop_rounds 1 ?_
  rw [rounds_succ]
  go_wp2_with fail
  refine HC.out.mono ?_
  rintro e w1 ⟨rfl, h1, h2⟩
  have H1 := Lib.hid h1
  have H2 := Lib.hid h2
  clear h1 h2 HC
  go_wp2_with fail
  refine wp_loop_rounds 1 ?_
  rw [rounds_succ]
  go_wp2_with fail
  refine bodyPost_end (results_none rfl _ _ _) rfl ?_
  exact ⟨rfl, H1.out, H2.out⟩
set_option maxRecDepth 100000 in
theorem sort2_or {B : Nat} {v : Value} (acc : List (List Rep)) (w : World) (hor : PR w B v acc) (hn1 : acc.length ≤ 19) :
    Calls Try.prog 16 #[v, .func (.func 17) #[] #[]] w fun e w' => e = .returned (.tuple #[]) ∧ PR w' B v (isort ltpo acc) ∧ w.grownBy w' v.ownBlock := by
  obtain ⟨A, c, rfl⟩ := hor.form
  have HC := Lib.hid (stable2_or acc w hor rfl hn1)
  clear hor
  go_enter Try.func16, Try.ntmps16
  go_wp2_with fail
  refine HC.out.mono ?_
  rintro e w1 ⟨rfl, h1, h2⟩
  have H1 := Lib.hid h1
  have H2 := Lib.hid h2
  clear h1 h2
  go_wp2_with fail
  refine bodyPost_end (results_none rfl _ _ _) rfl ?_
  exact ⟨rfl, H1.out, H2.out⟩
end Go.Proofs.Ytjefpnhffdeekaa
