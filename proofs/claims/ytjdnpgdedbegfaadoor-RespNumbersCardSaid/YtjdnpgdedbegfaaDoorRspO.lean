/- rest's reply, for any bytes; Clone; Decode. -/
import Derived.Test.YtjdnpgdedbegfaaDoorRspN
import Derived.Lib.SliceRun
namespace Go.Proofs.YtjdnpgdedbegfaaDoor
open Go.RowKit Go.Shelf
set_option linter.unusedVariables false

theorem read_any : ∀ d, ReadAt d
  | 0 => by
    intro w g n c A l p h hn hd
    exact reply_short 0 (by omega) w h hn (.inr (.inr rfl))
  | d + 1 => by
    intro w g n c A l p h hn hd
    have hR := read_any d
    have e : (34 - ((d + 1 : Nat) : Int)) = 33 - (d : Int) := by omega
    unfold Rsp.rd
    rcases hl : Rsp.lnl (l.drop p) with _ | ⟨s, t⟩
    · exact reply_short (d + 1) hd w h hn (.inl hl)
    · cases s with
      | nil => exact reply_short (d + 1) hd w h hn (.inr (.inl ⟨t, hl⟩))
      | cons c0 body =>
        rw [e]
        have hd' : d ≤ 32 := by omega
        show Calls _ _ _ _ (fun e w' => RRet w w' e g n c A l (Rsp.one (Rsp.rd d n) n c0 body t) ∧ w.grownBy w' (some g))
        unfold Rsp.one
        by_cases h43 : c0 = 43
        · rw [if_pos h43]; exact reply_plus d hd' w h hn hl (u8_t (d := 43) 43 rfl h43)
        rw [if_neg h43]
        have q43 := u8_f (c := c0) (d := 43) 43 rfl h43
        by_cases h45 : c0 = 45
        · rw [if_pos h45]; exact reply_minus d hd' w h hn hl q43 (u8_t (d := 45) 45 rfl h45)
        rw [if_neg h45]
        have q45 := u8_f (c := c0) (d := 45) 45 rfl h45
        by_cases h95 : c0 = 95
        · rw [if_pos h95]
          have q95 := u8_t (c := c0) (d := 95) 95 rfl h95
          by_cases hb : body = []
          · rw [if_pos hb]; exact reply_null d hd' w h hn hl q43 q45 q95 (by rw [hb]; rfl)
          · rw [if_neg hb]; exact reply_nonull d hd' w h hn hl q43 q45 q95 (by simpa using hb)
        rw [if_neg h95]
        have q95 := u8_f (c := c0) (d := 95) 95 rfl h95
        cases hp : Num.prs body with
        | none => exact reply_nonum d hd' w h hn hl q43 q45 q95 hp
        | some x =>
          show Calls _ _ _ _ (fun e w' => RRet w w' e g n c A l (Rsp.cnt (Rsp.rd d n) n c0 x t) ∧ w.grownBy w' (some g))
          unfold Rsp.cnt
          by_cases h58 : c0 = 58
          · rw [if_pos h58]; exact reply_int d hd' w h hn hl q43 q45 q95 (u8_t (d := 58) 58 rfl h58) x hp
          rw [if_neg h58]
          have q58 := u8_f (c := c0) (d := 58) 58 rfl h58
          by_cases h36 : c0 = 36
          · rw [if_pos h36]
            have q36 := u8_t (c := c0) (d := 36) 36 rfl h36
            by_cases hx : x = -1
            · rw [if_pos hx]; exact reply_nbulk d hd' w h hn hl q43 q45 q95 q58 q36 x hp (by simpa using hx)
            · rw [if_neg hx]; exact reply_bulk d hd' w h hn hl q43 q45 q95 q58 q36 x hp (by simpa using hx)
          rw [if_neg h36]
          have q36 := u8_f (c := c0) (d := 36) 36 rfl h36
          by_cases h42 : c0 = 42
          · rw [if_pos h42]
            have q42 := u8_t (c := c0) (d := 42) 42 rfl h42
            by_cases hx : x = -1
            · rw [if_pos hx]; exact reply_narr d hd' w h hn hl q43 q45 q95 q58 q36 q42 x hp (by simpa using hx)
            · rw [if_neg hx]; exact reply_arr d hd' hR w h hn hl q43 q45 q95 q58 q36 q42 x hp (by simpa using hx)
          rw [if_neg h42]
          have q42 := u8_f (c := c0) (d := 42) 42 rfl h42
          by_cases h37 : c0 = 37
          · rw [if_pos h37]; exact reply_map d hd' hR w h hn hl q43 q45 q95 q58 q36 q42 (u8_t (d := 37) 37 rfl h37) x hp
          rw [if_neg h37]
          have q37 := u8_f (c := c0) (d := 37) 37 rfl h37
          by_cases h126 : c0 = 126
          · rw [if_pos h126]; exact reply_set d hd' hR w h hn hl q43 q45 q95 q58 q36 q42 q37 (u8_t (d := 126) 126 rfl h126) x hp
          rw [if_neg h126]
          exact reply_other d hd' w h hn hl q43 q45 q95 q58 q36 q42 q37 (u8_f (c := c0) (d := 126) 126 rfl h126) x hp

/-- Bytes that are read: all blocks that they lie in are there. -/
def BSl (w : World) (v : Value) (l : List UInt8) : Prop :=
  ∃ A c, v = .slice A l.length c ∧ Reads w w.heap.size 1 A l.length (bv l) ∧ l.length ≤ c ∧ c ≤ maxLen ∧ (A = none → c = 0)
theorem BSl.below {w w' : World} {v : Value} {l : List UInt8} (h : BSl w v l) (hb : Below w.heap.size w w') : BSl w' v l := by
  obtain ⟨A, c, h1, h2, h3⟩ := h
  exact ⟨A, c, h1, (h2.below hb).more hb.size, h3⟩
theorem OB.bsl {w : World} {B e : Nat} {v : Value} {l : List UInt8} (h : OB w B e v l) : BSl w v l := by
  obtain ⟨A, c, rfl⟩ := h.sliceForm
  have hr := h.own_reads (Nat.le_refl _)
  rcases h.form with ⟨h1, h2⟩ | ⟨g, cap, h1, h2, h3, h4, h5⟩
  · injection h1 with e1 e2 e3
    subst e1; subst e3
    exact ⟨none, 0, by rw [h2], hr, by omega, by unfold maxLen; omega, fun _ => rfl⟩
  · injection h1 with e1 e2 e3
    subst e1; subst e3
    exact ⟨_, _, rfl, hr, h4, h5, fun h => by cases h⟩

set_option maxRecDepth 100000 in
set_option maxHeartbeats 4000000 in
/-- slices.Clone. -/
theorem clone_any (v : Value) (l : List UInt8) (w : World) (h : BSl w v l) (hl : l.length ≤ 1048576) :
    Calls Tryd.prog 22 #[v] w fun e w' => ∃ v', e = .returned v' ∧ OB w' w.heap.size 5 v' l ∧ Below w.heap.size w w' := by
  obtain ⟨i0, hi, hz0, hz1, hz2⟩ := info_parts u8info
  obtain ⟨A, c, rfl, hr, hlc, hcm, hAc⟩ := h
  cases A with
  | none =>
    have hn : l = [] := by
      have := hAc rfl
      exact List.eq_nil_of_length_eq_zero (by omega)
    have hc := hAc rfl
    subst hn; subst hc
    have qn : ∀ (w : World) (a : Option Addr) (n c n' c' : Nat), (binOp .eql 23 (.slice a n c) (.slice none n' c')).run Tryd.prog w = .ok (.bool a.isNone) w := fun w a n c n' c' => Lib.run_eql_slice_nil w _ _ a n c n' c' Tryd.underlying23
    go_enter Tryd.func22, Tryd.ntmps22
    go_wp2_with fail
    go_ret
    exact ⟨_, rfl, OB.nil _ _ _, Below.refl _ _⟩
  | some a =>
    obtain ⟨N, hN⟩ : ∃ N, l.length = N := ⟨_, rfl⟩
    have HN := Lib.hid hN
    rw [hN] at hr hl hlc ⊢
    clear hN
    have qn : ∀ (w : World) (a : Option Addr) (n c n' c' : Nat), (binOp .eql 23 (.slice a n c) (.slice none n' c')).run Tryd.prog w = .ok (.bool a.isNone) w := fun w a n c n' c' => Lib.run_eql_slice_nil w _ _ a n c n' c' Tryd.underlying23
    go_enter Tryd.func22, Tryd.ntmps22
    have hO0 : Own (w.alloc (.cells #[] 5)) w.heap.size 5 1 (.slice (some ⟨w.heap.size, 0, none⟩) 0 0) 0 [] := Own.lit w #[] 0 (Nat.le_refl _) (by decide) rfl
    have hr1 := (hr.alloc (Nat.le_refl _) (.cells #[] 5))
    have hb1 : Below w.heap.size w (w.alloc (.cells #[] 5)) := (Below.refl _ _).alloc (Nat.le_refl _) _
    go_wp2_with (at_builtin; refine wpList_append_Own _ rfl (.tmp 5) (.tmp 6) _ _ rfl w.heap.size 5 i0 _ 1 1 Tryd.underlying23 hi hz0 hz1 hz2 rfl (.slice (some ⟨w.heap.size, 0, none⟩) 0 0) 0 [] rfl hO0 _ N (bv l) rfl (Src.slice Tryd.underlying23 hr1 (bv_one l) (by decide)) (by unfold maxLen; omega) (by omega) (by simp) ?_; intro v1 w2 hO2 hgr hat)
    rw [Nat.zero_add, List.nil_append] at hO2
    go_ret
    refine ⟨_, rfl, OB.mk hO2 rfl, hb1.grown hgr (by simp) (fun k hk => ?_)⟩
    have := (hO0.lt k hk).1
    omega

theorem Own.caps {w : World} {B e size n c : Nat} {A : Option Addr} {xs : List Value} (h : Own w B e size (.slice A n c) n xs) : n ≤ c ∧ c ≤ maxLen := by
  rcases h.form with ⟨h1, h2⟩ | ⟨gg, cap, h1, h2, h3, h4, h5⟩
  · injection h1 with e1 e2 e3; subst e3; exact ⟨by omega, by unfold maxLen; omega⟩
  · injection h1 with e1 e2 e3; subst e3; exact ⟨h4, h5⟩

theorem RV.drew_ {w : World} {S : Nat → Prop} {r : Rep} {cs : List Value} (h : RV w S r cs) : RV w.drew S r cs := RV.keep (w := w) (w' := w.drew) (fun p hp => rfl) h

/-- What Decode gives. -/
def DRet (w w' : World) (e : Ending) (L : Nat) : Option (Rep × List UInt8) → Prop
  | none => e = .returned (.tuple #[.agg #[.int .i64 0, .string ⟨#[]⟩, .int .i64 0, .slice none 0 0], .int .i64 0, .int .i64 24])
  | some (r, t) => ∃ E f, e = .returned (.tuple #[.agg #[.int .i64 r.k, sv r.s, .int .i64 r.n, .slice E r.l.length f], .int .i64 ((L - t.length : Nat) : Int), .int .i64 0]) ∧ RV w' (New w w') r [.int .i64 r.k, sv r.s, .int .i64 r.n, .slice E r.l.length f]

set_option maxRecDepth 100000 in
set_option maxHeartbeats 8000000 in
theorem decode_any (v : Value) (l : List UInt8) (w : World) (h : BSl w v l) (hl : l.length ≤ 1048576) :
    Calls Tryd.prog 10 #[v] w fun e w' => DRet w w' e l.length (Rsp.rd 33 l.length l) ∧ Below w.heap.size w w' := by
  have hb0 : Below w.heap.size w (w.alloc (.cells #[.int .i64 0, .string ⟨#[]⟩, .int .i64 0, .slice none 0 0] 27)) := (Below.refl _ _).alloc (Nat.le_refl _) _
  have hC := clone_any v l _ (h.below hb0) hl
  have hB := Blk.new w 27 #[.int .i64 0, .string ⟨#[]⟩, .int .i64 0, .slice none 0 0]
  obtain ⟨N, hN⟩ : ∃ N, l.length = N := ⟨_, rfl⟩
  have HN := Lib.hid hN
  have HB0 := Lib.hid hb0
  obtain ⟨A, c, rfl, _⟩ := h
  clear hb0 hN
  go_enter Tryd.func10, Tryd.ntmps10
  go_wp2_with fail
  refine hC.mono ?_
  rintro e w1 ⟨v1, rfl, hO1, hb1⟩
  obtain ⟨A1, c1, rfl⟩ := hO1.sliceForm
  have hform := Own.caps hO1
  have hrst : Rst (w1.alloc (.cells #[.slice A1 l.length c1, .int .i64 0] 53)) w1.heap.size l.length c1 A1 l 0 :=
    ⟨Blk.new w1 _ _, (hO1.own_reads (Nat.le_refl _)).alloc (Nat.le_refl _) _, rfl, hform.1, hform.2, Nat.zero_le _⟩
  have hR := read_any 33 _ _ _ _ _ _ _ hrst hl (Nat.le_refl _)
  rw [show (34 - ((33 : Nat) : Int)) = 1 by omega, List.drop_zero] at hR
  have hB1 := (hB.below hb1 hB.lt).alloc (.cells #[.slice A1 l.length c1, .int .i64 0] 53)
  have hsz1 : w.heap.size + 1 ≤ w1.heap.size := by have := hb1.size; simpa using this
  have hb2 : Below w.heap.size w (w1.alloc (.cells #[.slice A1 l.length c1, .int .i64 0] 53)) := (HB0.out.trans (hb1.mono (by simp))).alloc (by omega) _
  rcases hrd : Rsp.rd 33 l.length l with _ | ⟨r, t⟩
  · rw [hrd] at hR
    have HRD := Lib.hid hrd
    clear hrd hrst hform
    go_wp2_with fail
    refine hR.mono ?_
    rintro e w2 ⟨⟨e0, e1, e2, e3, e4, e5, rfl⟩, hg2⟩
    have hB2 := (hB1.grown hg2 (fun e => by injection e with e; omega)).alloc (.cells #[.int .i64 e0, .string e1, .int .i64 e2, .slice e3 e4 e5] 27)
    have hb3 : Below w.heap.size w (w2.alloc (.cells #[.int .i64 e0, .string e1, .int .i64 e2, .slice e3 e4 e5] 27)) := (hb2.grown hg2 hb2.size (fun k hk => by injection hk with hk; omega)).alloc (by have := hg2.size; simp at this; omega) _
    have k0 := hB2.cell 0
    have z0 := hB2.frozen 0
    have k1 := hB2.cell 1
    have z1 := hB2.frozen 1
    have k2 := hB2.cell 2
    have z2 := hB2.frozen 2
    have k3 := hB2.cell 3
    have z3 := hB2.frozen 3
    go_wp2_with fail
    refine bodyPost_ret (ret_cell3 rfl _ _ w.heap.size _ _ _ _ _ rfl (hB2.put4 _ _ _ _)) rfl ?_
    rw [HRD.out]
    exact ⟨rfl, put4_below hb3 _ (Nat.le_refl _) _ _ _ _⟩
  · rw [hrd] at hR
    have HRD := Lib.hid hrd
    clear hrd hrst hform
    go_wp2_with fail
    refine hR.mono ?_
    rintro e w2 ⟨⟨⟨E, f, rfl, hv2⟩, hr2⟩, hg2⟩
    have hB2 := (hB1.grown hg2 (fun e => by injection e with e; omega)).alloc (.cells #[.int .i64 r.k, sv r.s, .int .i64 r.n, .slice E r.l.length f] 27)
    have hb3 : Below w.heap.size w (w2.alloc (.cells #[.int .i64 r.k, sv r.s, .int .i64 r.n, .slice E r.l.length f] 27)) := (hb2.grown hg2 hb2.size (fun k hk => by injection hk with hk; omega)).alloc (by have := hg2.size; simp at this; omega) _
    have hB6 := Blk.new w2 27 #[.int .i64 r.k, sv r.s, .int .i64 r.n, .slice E r.l.length f]
    have hB5 := (hr2.below ((Below.refl w2.heap.size w2).alloc (Nat.le_refl _) (.cells #[.int .i64 r.k, sv r.s, .int .i64 r.n, .slice E r.l.length f] 27)) hr2.lt).1
    have k0 := hB2.cell 0
    have z0 := hB2.frozen 0
    have k1 := hB2.cell 1
    have z1 := hB2.frozen 1
    have k2 := hB2.cell 2
    have z2 := hB2.frozen 2
    have k3 := hB2.cell 3
    have z3 := hB2.frozen 3
    have j0 := hB6.cell 0
    have j1 := hB6.cell 1
    have j2 := hB6.cell 2
    have j3 := hB6.cell 3
    have j5 := hB5.cell 1
    go_wp2_with fail
    go_region
    go_wp2_with fail
    refine bodyPost_ret (ret_cell3 rfl _ _ w.heap.size _ _ _ _ _ rfl (hB2.put4 _ _ _ _).drew) rfl ?_
    rw [HRD.out]
    have hv3 : RV (w2.alloc (.cells #[.int .i64 r.k, sv r.s, .int .i64 r.n, .slice E r.l.length f] 27)) (New (w1.alloc (.cells #[.slice A1 l.length c1, .int .i64 0] 53)) (w2.alloc (.cells #[.int .i64 r.k, sv r.s, .int .i64 r.n, .slice E r.l.length f] 27))) r [.int .i64 r.k, sv r.s, .int .i64 r.n, .slice E r.l.length f] :=
      RV.mono (fun k hk => ⟨hk.1, by have := hk.2; simp; omega⟩) (RV.keep (fun p hp => World.cell?_alloc_lt w2 _ p hp.2) hv2)
    have hx : w.heap.size < (w1.alloc (.cells #[.slice A1 l.length c1, .int .i64 0] 53)).heap.size := by simp; omega
    exact ⟨⟨E, f, rfl, RV.mono (fun b hb => hb) (RV.drew_ (put4_rv hv3 hx (.int .i64 r.k) (sv r.s) (.int .i64 r.n) (.slice E r.l.length f)))⟩, (put4_below hb3 _ (Nat.le_refl _) (.int .i64 r.k) (sv r.s) (.int .i64 r.n) (.slice E r.l.length f)).drew⟩
end Go.Proofs.YtjdnpgdedbegfaaDoor
