/- Lists of lists of texts; the walk of All. -/
import Derived.Test.YtjdnpgdedbegfaaReqO
namespace Go.Proofs.Ytjdnpgdedbegfaa.Rq
/-- All, with acc read already and k bytes read. -/
def AllAt (l : B) (k : Nat) (acc : List (List B)) : Prop := all l = (acc ++ (all (l.drop k)).1, (all (l.drop k)).2)
theorem AllAt.start (l : B) : AllAt l 0 [] := by unfold AllAt; rw [List.drop_zero]; simp
theorem AllAt.bad {l : B} {k : Nat} {acc : List (List B)} (h : AllAt l k acc) (hx : nxt (l.drop k) = none) : all l = (acc, l.drop k, true) := by
  unfold AllAt at h; rw [h, all_none hx]; simp
theorem AllAt.part {l : B} {k : Nat} {acc : List (List B)} (h : AllAt l k acc) (hx : nxt (l.drop k) = some none) : all l = (acc, l.drop k, false) := by
  unfold AllAt at h; rw [h, all_part hx]; simp
theorem AllAt.none_ {l r : B} {k q : Nat} {acc : List (List B)} (h : AllAt l k acc) (hx : nxt (l.drop k) = some (some ([], r))) (hr : r = l.drop q) : AllAt l q acc := by
  unfold AllAt at h ⊢; rw [h, all_whole hx, ← hr]; simp
theorem AllAt.some_ {l r : B} {k q : Nat} {acc : List (List B)} {ss : List B} (h : AllAt l k acc) (hx : nxt (l.drop k) = some (some (ss, r))) (hs : ss ≠ []) (hr : r = l.drop q) : AllAt l q (acc ++ [ss]) := by
  unfold AllAt at h ⊢; rw [h, all_whole hx, ← hr]; simp [hs]
theorem nxt_at {l : B} {p : Nat} {s : List B} {r : B} (h : nxt (l.drop p) = some (some (s, r))) : r = l.drop (l.length - r.length) := by
  exact suf_drop ((nxt_suf h).trans (List.drop_suffix p l))
end Go.Proofs.Ytjdnpgdedbegfaa.Rq
namespace Go.Proofs.Ytjdnpgdedbegfaa
open Go.RowKit Go.Shelf
set_option linter.unusedVariables false

theorem strsinfo : (Try.prog.info? 33).map (fun i => (i.zero, i.size, i.bytes)) = some (some (.slice none 0 0), 1, 24) := by kernel_rfl
theorem Own.ne_ {w : World} {B B' : Nat} {e e' : TypeId} {s s' n n' : Nat} {v v' : Value} {xs xs' : List Value} (h : Own w B e s v n xs) (h' : Own w B' e' s' v' n' xs') (hne : e ≠ e') : v.ownBlock = none ∨ v.ownBlock ≠ v'.ownBlock := by
  rcases h.2 with ⟨rfl, _⟩ | ⟨g, cap, cur, fz, rfl, _, hg, _⟩
  · exact .inl rfl
  · rcases h'.2 with ⟨rfl, _⟩ | ⟨g', cap', cur', fz', rfl, _, hg', _⟩
    · exact .inr (by simp [Value.ownBlock])
    · refine .inr (fun e1 => ?_)
      have : g = g' := by simpa [Value.ownBlock] using e1
      subst this
      rw [hg] at hg'
      injection hg' with hg'
      injection hg' with _ ht
      exact hne ht
/-- A list of lists of texts of the call's own. -/
def LL (w : World) (B : Nat) (v : Value) (ws : List (List (List UInt8))) : Prop :=
  ∃ vs : List Value, Own w B 33 1 v ws.length vs ∧ ∀ (i : Nat) (l : List (List UInt8)) (u : Value), ws[i]? = some l → vs[i]? = some u → Own w B 9 1 u l.length (l.map sv)
theorem LL.nil (w : World) (B : Nat) : LL w B (.slice none 0 0) [] := ⟨[], Own.nil _ _ _ _, fun i l u h => by simp at h⟩
theorem LL.below_ {w w' : World} {B : Nat} {v : Value} {ws : List (List (List UInt8))} (h : LL w B v ws) (hb : Below w.heap.size w w') : LL w' B v ws := by
  obtain ⟨vs, h1, h2⟩ := h
  exact ⟨vs, h1.below_ hb, fun i l u a b => (h2 i l u a b).below_ hb⟩
theorem LL.alloc {w : World} {B : Nat} {v : Value} {ws : List (List (List UInt8))} (h : LL w B v ws) (o : Obj) : LL (w.alloc o) B v ws := by
  obtain ⟨vs, h1, h2⟩ := h
  exact ⟨vs, h1.alloc o, fun i l u a b => (h2 i l u a b).alloc o⟩
theorem LL.form {w : World} {B : Nat} {v : Value} {ws : List (List (List UInt8))} (h : LL w B v ws) : ∃ A c, v = .slice A ws.length c := by
  obtain ⟨vs, h1, h2⟩ := h
  exact h1.sliceForm
theorem LL.lt {w : World} {B : Nat} {v : Value} {ws : List (List (List UInt8))} (h : LL w B v ws) : ∀ k, v.ownBlock = some k → B ≤ k ∧ k < w.heap.size := by
  obtain ⟨vs, h1, h2⟩ := h
  exact h1.lt
/-- Behind an append of one list. -/
theorem LL.snoc {w w' : World} {B : Nat} {v v' x : Value} {ws : List (List (List UInt8))} {l : List (List UInt8)} {vs : List Value}
    (h2 : ∀ (i : Nat) (l : List (List UInt8)) (u : Value), ws[i]? = some l → vs[i]? = some u → Own w B 9 1 u l.length (l.map sv)) (h1 : Own w B 33 1 v ws.length vs) (hx : Own w B 9 1 x l.length (l.map sv))
    (hg : w.grownBy w' v.ownBlock) (h' : Own w' B 33 1 v' (ws.length + 1) (vs ++ [x])) : LL w' B v' (ws ++ [l]) := by
  have hl : vs.length = ws.length := by have := h1.1; omega
  refine ⟨vs ++ [x], by rw [List.length_append]; exact h', fun i m u a b => ?_⟩
  rcases Nat.lt_trichotomy i ws.length with hi | hi | hi
  · rw [List.getElem?_append_left hi] at a
    rw [List.getElem?_append_left (by omega)] at b
    have := h2 i m u a b
    exact this.kept hg (this.ne_ h1 (by decide))
  · subst hi
    rw [List.getElem?_append_right (Nat.le_refl _)] at a
    rw [List.getElem?_append_right (by omega)] at b
    simp only [Nat.sub_self, hl, List.getElem?_cons_zero, Option.some.injEq] at a b
    subst a; subst b
    exact hx.kept hg (hx.ne_ h1 (by decide))
  · rw [List.getElem?_eq_none (by simp; omega)] at a
    cases a

theorem next_none {B : Nat} {v : Value} {l : List UInt8} (w : World) (hv : BSl w B v l) (hm : Mx w) (hn : l.length ≤ 1048576) (hr : Rq.nxt l = none) :
    Calls Try.prog 20 #[v] w fun e w' => e = .returned (.tuple #[.slice none 0 0, .int .i64 0, .int .i64 16]) ∧ Below w.heap.size w w' :=
  (next_any w hv hm hn).mono fun e w' ⟨he, hg⟩ => by rw [hr] at he; exact ⟨he, hg⟩
theorem next_part {B : Nat} {v : Value} {l : List UInt8} (w : World) (hv : BSl w B v l) (hm : Mx w) (hn : l.length ≤ 1048576) (hr : Rq.nxt l = some none) :
    Calls Try.prog 20 #[v] w fun e w' => e = .returned (.tuple #[.slice none 0 0, .int .i64 0, .int .i64 0]) ∧ Below w.heap.size w w' :=
  (next_any w hv hm hn).mono fun e w' ⟨he, hg⟩ => by rw [hr] at he; exact ⟨he, hg⟩
theorem next_some {B : Nat} {v : Value} {l : List UInt8} (w : World) (hv : BSl w B v l) (hm : Mx w) (hn : l.length ≤ 1048576) {ss : List (List UInt8)} {r : List UInt8} (hr : Rq.nxt l = some (some (ss, r))) (q : Nat) (hq : l.length - r.length = q) :
    Calls Try.prog 20 #[v] w fun e w' => ∃ A c, e = .returned (.tuple #[.slice A ss.length c, .int .i64 q, .int .i64 0]) ∧ Own w' w.heap.size 9 1 (.slice A ss.length c) ss.length (ss.map sv) ∧ Below w.heap.size w w' :=
  (next_any w hv hm hn).mono fun e w' ⟨he, hg⟩ => by
    rw [hr] at he; subst hq
    obtain ⟨x, h1, h2⟩ := he
    obtain ⟨A, c, rfl⟩ := h2.sliceForm
    exact ⟨A, c, h1, h2, hg⟩
theorem BSl.below {w w' : World} {B : Nat} {v : Value} {l : List UInt8} (h : BSl w B v l) (hb : Below w.heap.size w w') : BSl w' B v l := by
  obtain ⟨A, c, h1, h2, h3, h4⟩ := h
  exact ⟨A, c, h1, h2.keep (fun q hq => hb.cell (Nat.lt_of_lt_of_le hq h3)), Nat.le_trans h3 hb.size, h4⟩
theorem BSl.cut {w : World} {B n c : Nat} {a : Addr} {l : List UInt8} (h : BSl w B (.slice (some a) n c) l) (k : Nat) (hk : k ≤ n) : BSl w B (.slice (some (if c = k then a else a.add k)) (n - k) (c - k)) (l.drop k) := by
  obtain ⟨A, c', h1, h2, h3, h4, h5, h6⟩ := h
  injection h1 with e1 e2 e3
  subst e1; subst e2; subst e3
  refine ⟨some (if c = k then a else a.add k), c - k, by rw [List.length_drop], ?_, h3, by rw [List.length_drop]; omega, by omega, ?_⟩
  · have := h2.cut (k := k) (cap := c) hk h4
    rw [List.length_drop, show bv (l.drop k) = (bv l).drop k from by simp [bv, List.map_drop]]
    rw [Nat.mul_one] at this
    by_cases hcp : c = k
    · rw [if_pos hcp] at this ⊢; exact this
    · rw [if_neg hcp] at this ⊢; exact this
  · intro x hx
    injection hx with hx
    subst hx
    have := h6 a rfl
    split
    · exact this
    · unfold Addr.add; split
      · exact this
      · simp at this ⊢

/-- What All gives. -/
def AlRet (B : Nat) (w' : World) (e : Ending) (l : List UInt8) (x : List (List (List UInt8)) × List UInt8 × Bool) : Prop :=
  ∃ v, e = .returned (.tuple #[v, .int .i64 (l.length - x.2.1.length : Nat), .int .i64 (if x.2.2 = true then 16 else 0)]) ∧ LL w' B v x.1
theorem AlRet.below {B : Nat} {w w' : World} {e : Ending} {l : List UInt8} {x : List (List (List UInt8)) × List UInt8 × Bool} (h : AlRet B w e l x) (hb : Below w.heap.size w w') : AlRet B w' e l x := by
  obtain ⟨v, h1, h2⟩ := h
  exact ⟨v, h1, h2.below_ hb⟩

set_option maxRecDepth 100000 in
set_option maxHeartbeats 8000000 in
theorem all_any {B : Nat} {v : Value} {l : List UInt8} (w : World) (hv : BSl w B v l) (hm : Mx w) (hn : l.length ≤ 1048576) :
    Calls Try.prog 10 #[v] w fun e w' => AlRet w.heap.size w' e l (Rq.all l) ∧ Below w.heap.size w w' := by
  obtain ⟨i0, hi, hz0, hz1, hz2⟩ := info_parts strsinfo
  obtain ⟨A, c, rfl, hrd, hB, hlc, hcm, hsub⟩ := hv
  rcases A with _ | a
  · have h0 : l.length = 0 := by
      rcases Nat.eq_zero_or_pos l.length with h | h
      · exact h
      · obtain ⟨ad, e, _⟩ := hrd.2 h; cases e
    have hl : l = [] := List.eq_nil_of_length_eq_zero h0
    subst hl
    have HX := Lib.hid (Rq.all_part (l := []) rfl)
    go_enter Try.func10, Try.ntmps10
    go_wp2_with fail
    go_loopw [5, 6] (fun v x wr => v = .slice none 0 0 ∧ x = .int .i64 0 ∧ wr = w) (fun _ _ _ => 0)
    case atStart => exact ⟨rfl, rfl, rfl⟩
    case round =>
      obtain ⟨rfl, rfl, rfl⟩ := hrel
      go_wp2_with fail
      refine (next_part _ ⟨none, c, rfl, hrd, hB, hlc, hcm, hsub⟩ hm hn rfl).mono ?_
      rintro e w1 ⟨rfl, hb1⟩
      go_wp2_with fail
      go_ret3
      rw [HX.out]
      exact ⟨⟨_, rfl, LL.nil _ _⟩, hb1⟩
  · obtain ⟨n, hnl⟩ : ∃ n, l.length = n := ⟨_, rfl⟩
    have hv : BSl w B (.slice (some a) n c) l := ⟨some a, c, by rw [hnl], hrd, hB, hlc, hcm, hsub⟩
    rw [hnl] at hlc hn ⊢
    have HNL := Lib.hid hnl
    unfold maxLen at hcm
    clear hsub hrd hnl
    go_enter Try.func10, Try.ntmps10
    go_wp2_with fail
    go_loopw [5, 6] (fun v x wr => ∃ k acc, k ≤ n ∧ x = .int .i64 (k : Nat) ∧ LL wr w.heap.size v acc ∧ Hid (acc.length ≤ k) ∧ Below w.heap.size w wr ∧ Hid (Rq.AllAt l k acc)) (fun _ x _ => n - (intOf x).toNat)
    case atStart => exact ⟨0, [], Nat.zero_le _, rfl, LL.nil _ _, Lib.hid (Nat.zero_le _), Below.refl _ _, Lib.hid (Rq.AllAt.start l)⟩
    case round =>
      obtain ⟨k, acc, hkn, rfl, hLL, Hak, hbel, HA⟩ := hrel
      have hbs : w.heap.size ≤ wr.heap.size := hbel.size
      obtain ⟨A, cc, rfl⟩ := hLL.form
      have hcut := (hv.below hbel).cut k hkn
      have hmr := hm.below_ hbel
      have hdl := Lib.hid (show (l.drop k).length = n - k by rw [List.length_drop, HNL.out])
      have hs1 : (0 : Int) ≤ (k : Int) := by omega
      have hs2 : (k : Int) ≤ (n : Int) := by omega
      have hs3 : (n : Int) ≤ (c : Int) := by omega
      rcases hx : Rq.nxt (l.drop k) with _ | _ | ⟨ss, r⟩
      · have HX := Lib.hid (HA.out.bad hx)
        have HRES := Lib.hid (show AlRet w.heap.size wr (.returned (.tuple #[.slice A acc.length cc, .int .i64 k, .int .i64 16])) l (Rq.all l) by
          rw [HX.out]
          refine ⟨_, ?_, hLL⟩
          rw [hdl.out, HNL.out, show n - (n - k) = k from by omega]; rfl)
        by_cases hck : c = k
        · rw [if_pos hck, show c - k = 0 from by omega] at hcut
          go_wp2_with fail
          refine (next_none _ hcut hmr (by rw [hdl.out]; omega) hx).mono ?_
          rintro e w1 ⟨rfl, hb1⟩
          go_wp2_with fail
          go_ret3
          exact ⟨AlRet.below HRES.out hb1, hbel.trans (hb1.mono hbs)⟩
        · rw [if_neg hck] at hcut
          go_wp2_with fail
          refine (next_none _ hcut hmr (by rw [hdl.out]; omega) hx).mono ?_
          rintro e w1 ⟨rfl, hb1⟩
          go_wp2_with fail
          go_ret3
          exact ⟨AlRet.below HRES.out hb1, hbel.trans (hb1.mono hbs)⟩
      · have HX := Lib.hid (HA.out.part hx)
        have HRES := Lib.hid (show AlRet w.heap.size wr (.returned (.tuple #[.slice A acc.length cc, .int .i64 k, .int .i64 0])) l (Rq.all l) by
          rw [HX.out]
          refine ⟨_, ?_, hLL⟩
          rw [hdl.out, HNL.out, show n - (n - k) = k from by omega]; rfl)
        by_cases hck : c = k
        · rw [if_pos hck, show c - k = 0 from by omega] at hcut
          go_wp2_with fail
          refine (next_part _ hcut hmr (by rw [hdl.out]; omega) hx).mono ?_
          rintro e w1 ⟨rfl, hb1⟩
          go_wp2_with fail
          go_ret3
          exact ⟨AlRet.below HRES.out hb1, hbel.trans (hb1.mono hbs)⟩
        · rw [if_neg hck] at hcut
          go_wp2_with fail
          refine (next_part _ hcut hmr (by rw [hdl.out]; omega) hx).mono ?_
          rintro e w1 ⟨rfl, hb1⟩
          go_wp2_with fail
          go_ret3
          exact ⟨AlRet.below HRES.out hb1, hbel.trans (hb1.mono hbs)⟩
      · have hrl := Rq.nxt_less hx
        have hra := Rq.nxt_at hx
        rw [hdl.out] at hrl
        obtain ⟨q, hq⟩ : ∃ q, (l.drop k).length - r.length = q := ⟨_, rfl⟩
        have HQ := Lib.hid hq
        have hq1 : 0 < q := by have := hdl.out; omega
        have hq2 : k + q ≤ n := by have := hdl.out; omega
        have HQp := Lib.hid hq1
        have hz0' : (0 : Int) < (q : Int) := by omega
        have hz1' : ((q : Int) == 0) = false := by simpa using (by omega : ¬ q = 0)
        have hr : r = l.drop (k + q) := by rw [hra, HNL.out]; congr 1; have := hdl.out; omega
        by_cases hss : ss = []
        · subst hss
          have HX := Lib.hid (HA.out.none_ hx hr)
          clear hr hra hq hq1 hrl
          by_cases hck : c = k
          · exact absurd hck (by omega)
          · rw [if_neg hck] at hcut
            go_wp2_with fail
            refine (next_some _ hcut hmr (by rw [hdl.out]; omega) hx q HQ.out).mono ?_
            rintro e w1 ⟨A1, c1, rfl, hO, hb1⟩
            have hb2 := hbel.trans (hb1.mono hbs)
            have hLL1 := hLL.below_ hb1
            have hbs1 : w.heap.size ≤ w1.heap.size := hb2.size
            go_wp2_with fail
            go_roundw
            case rel =>
              first
                | exact ⟨k + q, acc, by omega, by go_num, hLL1, Lib.hid (by have := Hak.out; omega), hb2, HX⟩
                | ((repeat apply Exists.intro); exact ⟨⟨k + q, acc, by omega, by go_num, hLL1, Lib.hid (by have := Hak.out; omega), hb2, HX⟩, rfl⟩)
            case measure => (simp [intOf]) <;> omega
        · have HX := Lib.hid (HA.out.some_ hx hss hr)
          have hsl : 0 < ss.length := List.length_pos_iff.mpr hss
          have hsl' : (0 : Int) < (ss.length : Int) := by omega
          clear hr hra hq hq1 hrl hss hsl
          by_cases hck : c = k
          · exact absurd hck (by omega)
          · rw [if_neg hck] at hcut
            go_wp2_with fail
            refine (next_some _ hcut hmr (by rw [hdl.out]; omega) hx q HQ.out).mono ?_
            rintro e w1 ⟨A1, c1, rfl, hO, hb1⟩
            have hb2 := hbel.trans (hb1.mono hbs)
            have hLL1 := hLL.below_ hb1
            have hbs1 : w.heap.size ≤ w1.heap.size := hb2.size
            obtain ⟨vs, hOv, hin⟩ := hLL1
            have hO1 := hO.mono hbs
            have Hlim := Hak.out
            go_wp2_with (at_builtin; refine wpList_append_Own _ rfl (.tmp 26) (.tmp 28) _ _ rfl w.heap.size 33 i0 _ 1 24 Try.underlying26 hi hz0 hz1 hz2 rfl (.slice A acc.length cc) acc.length vs rfl (hOv.alloc _) _ 1 [.slice A1 ss.length c1] rfl (Src.own (Own.lit (base := w.heap.size) w1 #[.slice A1 ss.length c1] 1 hbs1 (by decide) rfl) Try.underlying26 (by intro v hv; simp at hv; subst hv; rfl) (by decide)) (by unfold maxLen; omega) (by omega) (by simp; omega) ?_; intro v1 w2 hO2 hgr hat)
            have hL2 : LL w2 w.heap.size v1 (acc ++ [ss]) := LL.snoc (fun i l u a b => (hin i l u a b).alloc _) (hOv.alloc _) (hO1.alloc _) hgr hO2
            have hb3 : Below w.heap.size w w2 := (hb2.alloc hbs1 _).grown hgr (by simp; omega) (fun k hk => (hOv.lt k hk).1)
            go_roundw
            case rel =>
              first
                | exact ⟨k + q, acc ++ [ss], by omega, by go_num, hL2, Lib.hid (by rw [List.length_append, List.length_singleton]; have := HQp.out; omega), hb3, HX⟩
                | ((repeat apply Exists.intro); exact ⟨⟨k + q, acc ++ [ss], by omega, by go_num, hL2, Lib.hid (by rw [List.length_append, List.length_singleton]; have := HQp.out; omega), hb3, HX⟩, rfl⟩)
            case measure => (simp [intOf]) <;> omega
end Go.Proofs.Ytjdnpgdedbegfaa
