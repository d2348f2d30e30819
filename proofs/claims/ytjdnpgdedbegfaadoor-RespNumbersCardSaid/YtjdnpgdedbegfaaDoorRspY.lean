/- The walk of All. -/
import Derived.Test.YtjdnpgdedbegfaaDoorRspX
namespace Go.Proofs.YtjdnpgdedbegfaaDoor
open Go.RowKit Go.Shelf
set_option linter.unusedVariables false

/-- Replies acc have been read up to q. -/
def AllAt (l : List UInt8) (q : Nat) (acc : List Rep) : Prop := ∀ l' k', AllOf (l.drop q) l' k' → AllOf l (acc ++ l') (q + k')
theorem AllAt.start (l : List UInt8) : AllAt l 0 [] := fun l' k' h => by simpa using h
theorem AllAt.out {l : List UInt8} {q : Nat} {acc : List Rep} (h : AllAt l q acc) (hn : Rsp.rd 33 (l.drop q).length (l.drop q) = none) : AllOf l acc q := by
  have := h [] 0 (.stop _ hn)
  simpa using this
theorem AllAt.next {l : List UInt8} {q : Nat} {acc : List Rep} (h : AllAt l q acc) (hq : q ≤ l.length) {r : Rep} {t : List UInt8} (hr : Rsp.rd 33 (l.drop q).length (l.drop q) = some (r, t)) : AllAt l (l.length - t.length) (acc ++ [r]) := by
  intro l' k' h'
  have ht := Rsp.rd_drop hr
  have hs := Rsp.rd_suf 33 hr
  rw [List.length_drop] at hs
  rw [← ht] at h'
  have := h _ _ (.more _ r t l' k' hr h')
  rw [List.length_drop] at this
  rw [List.append_assoc, List.singleton_append]
  rwa [show q + (l.length - q - t.length + k') = l.length - t.length + k' by omega] at this
theorem BSl.drop_ {w : World} {a : Addr} {n c : Nat} {l : List UInt8} (h : BSl w (.slice (some a) n c) l) (hn : l.length = n) (q : Nat) (hq : q ≤ n) : BSl w (.slice (some (if c = q then a else a.add q)) (n - q) (c - q)) (l.drop q) := by
  obtain ⟨A, c', h1, h2, h3, h4, h5⟩ := h
  injection h1 with e1 e2 e3
  subst e1; subst e3
  have hc := h2.cut (k := q) (cap := c) (by omega) h3
  rw [Nat.mul_one] at hc
  refine ⟨some (if c = q then a else a.add q), c - q, by rw [List.length_drop, hn], ?_, by rw [List.length_drop]; omega, by unfold maxLen at *; omega, fun h => by cases h⟩
  rw [List.length_drop, show bv (l.drop q) = (bv l).drop q by simp [bv, List.map_drop]]
  by_cases hcq : c = q
  · rw [if_pos hcq] at hc ⊢; exact hc
  · rw [if_neg hcq] at hc ⊢; exact hc
theorem BSl.take_ {w : World} {A : Option Addr} {n c : Nat} {l : List UInt8} (h : BSl w (.slice A n c) l) (k : Nat) (hk : k ≤ n) : BSl w (.slice A k c) (l.take k) := by
  obtain ⟨A', c', h1, h2, h3, h4, h5⟩ := h
  injection h1 with e1 e2 e3
  subst e1; subst e3
  have hl : (l.take k).length = k := by rw [List.length_take]; omega
  refine ⟨A, c, by rw [hl], ?_, by rw [hl]; omega, h4, h5⟩
  rw [hl]
  refine ⟨by rw [bv_length, hl]; omega, fun h0 => ?_⟩
  obtain ⟨ad, g1, g2, g3⟩ := h2.2 (by omega)
  refine ⟨ad, g1, g2, fun j u hu => g3 j u ?_⟩
  rw [show bv (l.take k) = (bv l).take k from by simp [bv, List.map_take], List.getElem?_take] at hu
  split at hu
  · exact hu
  · cases hu
/-- What All gives. -/
def ARet (w w' : World) (e : Ending) (l : List UInt8) : Prop := ∃ v acc q, e = .returned (.tuple #[v, .int .i64 (q : Nat)]) ∧ OR w' w.heap.size v acc ∧ AllOf l acc q

set_option maxRecDepth 100000 in
set_option maxHeartbeats 8000000 in
theorem all_some (a : Addr) (n c : Nat) (l : List UInt8) (w : World) (h : BSl w (.slice (some a) n c) l) (hn : l.length = n) (hl : n ≤ 1048576) :
    Calls Tryd.prog 15 #[.slice (some a) n c] w fun e w' => ARet w w' e l ∧ Below w.heap.size w w' := by
  obtain ⟨i0, hi, hz0, hz1, hz2⟩ := info_parts repinfo
  have hnc : n ≤ c := by obtain ⟨A, c', h1, h2, h3, h4, h5⟩ := h; injection h1 with e1 e2 e3; omega
  have hcm : c ≤ 9223372036854775807 := by obtain ⟨A, c', h1, h2, h3, h4, h5⟩ := h; injection h1 with e1 e2 e3; unfold maxLen at h4; omega
  have HN := Lib.hid hn
  have HB := Lib.hid h
  clear hn h
  go_enter Tryd.func15, Tryd.ntmps15
  go_wp2_with fail
  go_loopw [4, 5] (fun x y wr => ∃ q acc, y = .int .i64 (q : Nat) ∧ q ≤ n ∧ 3 * acc.length ≤ q ∧ OR wr w.heap.size x acc ∧ Hid (AllAt l q acc) ∧ Below w.heap.size w wr) (fun _ y _ => n - (intOf y).toNat)
  case atStart => exact ⟨0, [], rfl, Nat.zero_le _, by simp, OR.nil _ _, Lib.hid (AllAt.start l), Below.refl _ _⟩
  case round =>
    obtain ⟨q, acc, rfl, hqn, h3, hO, HA, hbel⟩ := hrel
    have hbs := (HB.out.below hbel).drop_ HN.out q hqn
    have hD := decode_any _ _ wr hbs (by rw [List.length_drop, HN.out]; omega)
    have hq0 : (0 : Int) ≤ (q : Int) := by omega
    have hqi : (q : Int) ≤ (n : Int) := by omega
    rcases hrd : Rsp.rd 33 (l.drop q).length (l.drop q) with _ | ⟨r, t⟩
    · rw [hrd] at hD
      have HR := Lib.hid (HA.out.out hrd)
      clear hrd hbs
      by_cases hcq : c = q
      · rw [if_pos hcq, show c - q = 0 by omega] at hD
        have hcq' : (n : Int) = (q : Int) := by omega
        clear hcq'
        go_wp2_with fail
        refine hD.mono ?_
        rintro e w1 ⟨rfl, hb1⟩
        have hb2 := (hb1.alloc hb1.size (.cells #[.int .i64 0, .string ⟨#[]⟩, .int .i64 0, .slice none 0 0] 27))
        have HX := Lib.hid (And.intro (hO.below hb2) (hbel.trans (hb2.mono hbel.size)))
        clear hb2
        go_wp2_with fail
        go_ret2
        exact ⟨⟨_, _, q, rfl, HX.out.1, HR.out⟩, HX.out.2⟩
      · rw [if_neg hcq] at hD
        go_wp2_with fail
        refine hD.mono ?_
        rintro e w1 ⟨rfl, hb1⟩
        have hb2 := (hb1.alloc hb1.size (.cells #[.int .i64 0, .string ⟨#[]⟩, .int .i64 0, .slice none 0 0] 27))
        have HX := Lib.hid (And.intro (hO.below hb2) (hbel.trans (hb2.mono hbel.size)))
        clear hb2
        go_wp2_with fail
        go_ret2
        exact ⟨⟨_, _, q, rfl, HX.out.1, HR.out⟩, HX.out.2⟩
    · have hcq : ¬ c = q := by
        intro h
        rw [List.drop_eq_nil_of_le (by rw [HN.out]; omega), rd_nil] at hrd
        cases hrd
      have hs := Rsp.rd_suf 33 hrd
      rw [List.length_drop, HN.out] at hs
      have HX := Lib.hid (HA.out.next (by rw [HN.out]; exact hqn) hrd)
      rw [hrd, if_neg hcq] at hD
      obtain ⟨T, hT⟩ : ∃ T, t.length = T := ⟨_, rfl⟩
      obtain ⟨q', hq'⟩ : ∃ q', n - T = q' := ⟨_, rfl⟩
      have HQ := Lib.hid (show l.length - t.length = q' by rw [HN.out, hT]; exact hq')
      have hDl := Lib.hid (show (l.drop q).length - t.length = q' - q by rw [List.length_drop, HN.out, hT]; omega)
      have hq1 : q + 3 ≤ q' := by omega
      have hq2 : q' ≤ n := by omega
      obtain ⟨xs, hown, hrl⟩ := hO
      obtain ⟨N, hN⟩ : ∃ N, acc.length = N := ⟨_, rfl⟩
      have HNN := Lib.hid hN
      rw [hN] at hown h3
      simp only [DRet, hDl.out] at hD
      have hqs : (q : Int) + ((q' - q : Nat) : Int) = (q' : Int) := by omega
      have HQS := Lib.hid hqs
      clear hrd hbs hs hT hq' hN hqs
      obtain ⟨Av, cv, rfl⟩ := hown.sliceForm
      go_wp2_with fail
      refine hD.mono ?_
      rintro e w1 ⟨⟨E, f, rfl, hrv⟩, hb1⟩
      have hown1 := hown.below_ hb1
      have hB11 := Blk.new w1 27 #[.int .i64 r.k, .string (bs r.s), .int .i64 r.n, .slice E r.l.length f]
      have k4 := hB11.cell 0
      have k5 := hB11.cell 1
      have k6 := hB11.cell 2
      have k7 := hB11.cell 3
      have hbs := hbel.size
      have hsz1 : w.heap.size ≤ w1.heap.size := Nat.le_trans hbel.size hb1.size
      have hb3' : w.heap.size ≤ (w1.alloc (.cells #[.int .i64 r.k, .string (bs r.s), .int .i64 r.n, .slice E r.l.length f] 27)).heap.size := by simp; omega
      have hown2 := (hown1.alloc (.cells #[.int .i64 r.k, .string (bs r.s), .int .i64 r.n, .slice E r.l.length f] 27)).alloc (.cells #[.int .i64 r.k, .string (bs r.s), .int .i64 r.n, .slice E r.l.length f] 27)
      have hbe : Below w1.heap.size w1 ((w1.alloc (.cells #[.int .i64 r.k, .string (bs r.s), .int .i64 r.n, .slice E r.l.length f] 27)).alloc (.cells #[.int .i64 r.k, .string (bs r.s), .int .i64 r.n, .slice E r.l.length f] 27)) := ((Below.refl _ _).alloc (Nat.le_refl _) _).alloc (by simp) _
      have Hbe := Lib.hid hbe
      have hlit : Own ((w1.alloc (.cells #[.int .i64 r.k, .string (bs r.s), .int .i64 r.n, .slice E r.l.length f] 27)).alloc (.cells #[.int .i64 r.k, .string (bs r.s), .int .i64 r.n, .slice E r.l.length f] 27)) w.heap.size 27 4 (.slice (some ⟨w1.heap.size + 1, 0, none⟩) 1 1) 1 [.int .i64 r.k, .string (bs r.s), .int .i64 r.n, .slice E r.l.length f] := by
        have hl := Own.lit (base := w.heap.size) (e := 27) (size := 4) (w1.alloc (.cells #[.int .i64 r.k, .string (bs r.s), .int .i64 r.n, .slice E r.l.length f] 27)) #[.int .i64 r.k, .string (bs r.s), .int .i64 r.n, .slice E r.l.length f] 1 hb3' (by decide) rfl
        rwa [World.alloc_size] at hl
      have hone : ∀ v ∈ ([.int .i64 r.k, .string (bs r.s), .int .i64 r.n, .slice E r.l.length f] : List Value), v.oneCell' = true := by
        intro v hv; simp at hv; rcases hv with rfl | rfl | rfl | rfl <;> rfl
      clear hbe
      go_wp2_with (first
        | (at_builtin; refine wpList_append_Own _ rfl (.tmp 21) (.tmp 23) _ _ rfl w.heap.size 27 i0 _ 4 56 Tryd.underlying25 hi hz0 hz1 hz2 rfl (.slice Av N cv) N xs rfl hown2 _ 1 [.int .i64 r.k, .string (bs r.s), .int .i64 r.n, .slice E r.l.length f] rfl (Src.own hlit Tryd.underlying25 hone (by decide)) (by unfold maxLen; omega) (by omega) (by simp; omega) ?_; intro v4 w4 hO4 hg4 hat))
      have hrl4 := RLs.push hbs hown hrl hb1 hrv Hbe.out hg4 (by simpa using hat)
      have hO5 : OR w4 w.heap.size v4 (acc ++ [r]) := ⟨xs ++ [.int .i64 r.k, .string (bs r.s), .int .i64 r.n, .slice E r.l.length f], by rw [List.length_append, HNN.out]; exact hO4, hrl4⟩
      have hbf : Below w.heap.size w w4 := ((hbel.trans (hb1.mono hbel.size)).trans (Hbe.out.mono hsz1)).grown hg4 (by have := Hbe.out.size; omega) (fun k hk => (hown.lt k hk).1)
      have hla : 3 * (acc ++ [r]).length ≤ q' := by rw [List.length_append, HNN.out, List.length_singleton]; omega
      rw [HQ.out] at HX
      have HH := Lib.hid (And.intro hla (And.intro hO5 (And.intro HX hbf)))
      clear hla hO5 hbf hrl4
      rw [HQS.out]
      go_roundw
      case rel =>
        first
          | exact ⟨q', acc ++ [r], by go_num, hq2, HH.out.1, HH.out.2.1, HH.out.2.2.1, HH.out.2.2.2⟩
          | ((repeat apply Exists.intro); exact ⟨⟨q', acc ++ [r], by go_num, hq2, HH.out.1, HH.out.2.1, HH.out.2.2.1, HH.out.2.2.2⟩, rfl⟩)
      case measure => simp [intOf]; omega

set_option maxRecDepth 100000 in
set_option maxHeartbeats 8000000 in
theorem all_empty (w : World) : Calls Tryd.prog 15 #[.slice none 0 0] w fun e w' => ARet w w' e [] ∧ Below w.heap.size w w' := by
  have hD := fun (wr : World) => decode_any (.slice none 0 0) [] wr ⟨none, 0, rfl, ⟨by simp [bv], by simp⟩, by simp, by unfold maxLen; omega, fun _ => rfl⟩ (by simp)
  rw [rd_nil] at hD
  go_enter Tryd.func15, Tryd.ntmps15
  go_wp2_with fail
  go_loopw [4, 5] (fun x y wr => x = .slice none 0 0 ∧ y = .int .i64 0 ∧ wr = w) (fun _ _ _ => 0)
  case atStart => exact ⟨rfl, rfl, rfl⟩
  case round =>
    obtain ⟨rfl, rfl, rfl⟩ := hrel
    go_wp2_with fail
    refine (hD _).mono ?_
    rintro e w1 ⟨rfl, hb1⟩
    go_wp2_with fail
    go_ret2
    exact ⟨⟨_, [], 0, rfl, OR.nil _ _, .stop _ (rd_nil _ _)⟩, hb1.alloc hb1.size _⟩
theorem all_any (v : Value) (l : List UInt8) (w : World) (h : BSl w v l) (hl : l.length ≤ 1048576) :
    Calls Tryd.prog 15 #[v] w fun e w' => ARet w w' e l ∧ Below w.heap.size w w' := by
  obtain ⟨A, c, rfl, h2, h3, h4, h5⟩ := h
  cases A with
  | some a => exact all_some a l.length c l w ⟨some a, c, rfl, h2, h3, h4, h5⟩ rfl hl
  | none =>
    have hc := h5 rfl
    have hn : l = [] := List.eq_nil_of_length_eq_zero (by omega)
    subst hn; subst hc
    exact all_empty w
end Go.Proofs.YtjdnpgdedbegfaaDoor
