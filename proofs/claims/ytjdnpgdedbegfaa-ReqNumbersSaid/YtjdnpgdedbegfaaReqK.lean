/- The walk of number. -/
import Derived.Test.YtjdnpgdedbegfaaReqJ
import Derived.Maps.AppendAt
namespace Go.Proofs.Ytjdnpgdedbegfaa
open Go.RowKit Go.Shelf
set_option linter.unusedVariables false

theorem World.setCell_size (w : World) (p : Addr) (u : Value) : (w.setCell p u).heap.size = w.heap.size := by
  unfold World.setCell; simp
theorem _root_.Go.Lib.below_drewN' {B : Nat} {a w : World} (h : Below B a w) (q : Nat) : Below B a (w.drewN q) := ⟨h.os, h.tape, h.output, h.size, h.block⟩
theorem Rest.lt {w : World} {g n c : Nat} {a : Addr} {l : List UInt8} {p : Nat} {why : Int} (h : Rest w g n c a l p why) : g < w.heap.size := h.1.lt
theorem Rest.below {w w' : World} {g n c : Nat} {a : Addr} {l : List UInt8} {p : Nat} {why : Int} (h : Rest w g n c a l p why) (hb : Below w.heap.size w w') : Rest w' g n c a l p why :=
  ⟨h.1.below hb h.lt, h.2.1.keep (fun q hq => hb.cell (Nat.lt_trans hq h.lt)), h.2.2⟩
/-- The address of what is left. -/
def la (a : Addr) (c p : Nat) : Addr := if c = p then a else a.add p
theorem Rest.left {w : World} {g n c : Nat} {a : Addr} {l : List UInt8} {p : Nat} {why : Int} (h : Rest w g n c a l p why) : Reads w g 1 (some (la a c p)) (n - p) (bv (l.drop p)) := by
  have := h.2.1.cut (k := p) (cap := c) h.2.2.2.2.2 h.2.2.2.1
  rw [Nat.mul_one] at this
  unfold la
  rw [show bv (l.drop p) = (bv l).drop p from by simp [bv, List.map_drop]]
  by_cases hcp : c = p
  · rw [if_pos hcp] at this ⊢; exact this
  · rw [if_neg hcp] at this ⊢; exact this
theorem left_la {g n c : Nat} {a : Addr} {l : List UInt8} {p : Nat} {why : Int} (w : World) (h : Rest w g n c a l p why) :
    Calls Try.prog 38 #[.pointer (some ⟨g, 0, none⟩)] w fun e w' => e = .returned (.slice (some (la a c p)) (n - p) (c - p)) ∧ Below w.heap.size w w' :=
  (left_any w h).mono fun e w' ⟨he, q, hw⟩ => ⟨he, by rw [hw]; exact ⟨rfl, rfl, rfl, Nat.le_refl _, fun _ _ => rfl⟩⟩

theorem index_w2 {g n c : Nat} {a : Addr} {l : List UInt8} {p : Nat} {why : Int} {w w1 : World} (h : Rest w g n c a l p why) (hm : Mx w) (hn : n ≤ 1048576) (hb1 : Below w.heap.size w w1) :
    Calls Try.prog 47 #[.slice (some (la a c p)) (n - p) (c - p), .slice (some ⟨w1.heap.size, 0, none⟩) 2 2] (w1.alloc (.cells #[.int .u8 13, .int .u8 10] 5 (2, 3)))
      fun e w' => e = .returned (.int .i64 (placed (Rq.crlf (l.drop p)))) ∧ Below w.heap.size w w' := by
  have hb2 := hb1.alloc hb1.size (.cells #[.int .u8 13, .int .u8 10] 5 (2, 3))
  have hr := (h.below hb2).left
  have hs : Reads (w1.alloc (.cells #[.int .u8 13, .int .u8 10] 5 (2, 3))) (w1.heap.size + 1) 1 (some ⟨w1.heap.size, 0, none⟩) 2 (bv [13, 10]) := by
    refine ⟨rfl, fun _ => ⟨_, rfl, by simp, fun j u hu => ?_⟩⟩
    rw [Lib.add_plain', World.cell?_alloc_mark, Nat.zero_add, ← Array.getElem?_toList]
    exact hu
  refine (index_any hr (by rw [List.length_drop, h.2.2.1]) (by have := h.2.2.2.1; omega) (by omega) hs (hm.below_ hb2)).mono ?_
  rintro e w' ⟨rfl, q, rfl⟩
  exact ⟨rfl, Lib.below_drewN' hb2 q⟩
theorem Rest.bad {w : World} {g n c : Nat} {a : Addr} {l : List UInt8} {p : Nat} {why : Int} (h : Rest w g n c a l p why) : Rest (w.setCell ⟨g, 2, none⟩ (.int .i64 16)) g n c a l p 16 :=
  ⟨h.1.set_ 2 _, h.2.1.setCell (Nat.le_refl _) _, h.2.2⟩
theorem Rest.step {w : World} {g n c : Nat} {a : Addr} {l : List UInt8} {p : Nat} {why : Int} (h : Rest w g n c a l p why) (p' : Nat) (hp : p' ≤ n) : Rest (w.setCell ⟨g, 1, none⟩ (.int .i64 p')) g n c a l p' why :=
  ⟨h.1.set_ 1 _, h.2.1.setCell (Nat.le_refl _) _, h.2.2.1, h.2.2.2.1, h.2.2.2.2.1, hp⟩
theorem grown_set {w w' : World} (hb : Below w.heap.size w w') (g i : Nat) (u : Value) : w.grownBy (w'.setCell ⟨g, i, none⟩ u) (some g) :=
  ⟨hb.os, hb.tape, hb.output, by rw [World.setCell_size]; exact hb.size, fun k hk hne => (Below.heap_setCell w' _ u k (fun e => hne (by rw [e]))).trans (hb.block k hk)⟩
theorem grown_of {w w' : World} (hb : Below w.heap.size w w') (row : Option Nat) : w.grownBy w' row := ⟨hb.os, hb.tape, hb.output, hb.size, fun k hk _ => hb.block k hk⟩
/-- Bytes that are read, as a string. -/
theorem reads_string {P : Program} {w : World} {B n cap : Nat} {e src dst : TypeId} {a : Addr} {l : List UInt8} (h : Reads w B 1 (some a) n (bv l)) (hn : n = l.length) (hs : P.underlying src = some (.slice e)) (he : P.underlying e = some (.int .u8)) (hd : P.underlying dst = some .string) :
    (convert src dst (.slice (some a) n cap)).run P w = .ok (.string (bs l)) w := by
  subst hn
  refine run_convert_bytes_back w src dst e a cap l hs he hd (fun j hj => ?_)
  obtain ⟨ad, u, h1, h2, h3, h4⟩ := h.at_ hj
  injection h1 with h1
  subst h1
  rw [h4]
  rw [bv_get l j hj] at h3
  exact h3.symm
theorem Reads.prefix_ {w : World} {B n k : Nat} {a : Addr} {l : List UInt8} (h : Reads w B 1 (some a) n (bv l)) (hk : k ≤ n) : Reads w B 1 (some a) k (bv (l.take k)) := by
  refine ⟨?_, fun h0 => ?_⟩
  · have := h.1
    rw [bv_length] at this ⊢
    rw [List.length_take]; omega
  · obtain ⟨ad, h1, h2, h3⟩ := h.2 (by omega)
    refine ⟨ad, h1, h2, fun j u hu => h3 j u ?_⟩
    rw [show bv (l.take k) = (bv l).take k from by simp [bv, List.map_take], List.getElem?_take] at hu
    split at hu
    · exact hu
    · cases hu
/-- What number gives. -/
def NRet (w' : World) (e : Ending) (g n c : Nat) (a : Addr) (l : List UInt8) (p : Nat) : Rq.Res Int → Prop
  | none => e = .returned (.tuple #[.int .i64 0, .bool false]) ∧ Rest w' g n c a l p 16
  | some none => e = .returned (.tuple #[.int .i64 0, .bool false]) ∧ Rest w' g n c a l p 0
  | some (some (x, r)) => e = .returned (.tuple #[.int .i64 x, .bool true]) ∧ Rest w' g n c a l (n - r.length) 0

set_option maxHeartbeats 4000000 in
theorem number_any {g n c : Nat} {a : Addr} {l : List UInt8} {p : Nat} (least most : Int) (w : World) (h : Rest w g n c a l p 0) (hm : Mx w) (hn : n ≤ 1048576) :
    Calls Try.prog 40 #[.pointer (some ⟨g, 0, none⟩), .int .i64 least, .int .i64 most] w fun e w' => NRet w' e g n c a l p (Rq.number least most (l.drop p)) ∧ w.grownBy w' (some g) := by
  have hnl : n = l.length := h.2.2.1
  have hpn : p ≤ n := h.2.2.2.2.2
  have hnc : n ≤ c := h.2.2.2.1
  have hcm : c ≤ maxLen := h.2.2.2.2.1
  have hdl : (l.drop p).length = n - p := by rw [List.length_drop]; omega
  have hg := h.lt
  have kc := fun (w : World) (C : Array Value) (n c : Nat) => Lib.run_convert_bytes_const (P := Try.prog) w 30 5 C n c Try.underlying30 Try.underlying5
  rcases hcr : Rq.crlf (l.drop p) with _ | k
  · by_cases h32 : 32 < n - p
    · have HN := Lib.hid (show Rq.number least most (l.drop p) = none by unfold Rq.number; rw [hcr]; simp only; rw [if_pos (by rw [hdl]; exact h32)])
      have h32' : (32 : Int) < ((n - p : Nat) : Int) := by omega
      clear hnl hdl
      go_enter Try.func40, Try.ntmps40
      go_wp2_with fail
      refine (left_la w h).mono ?_
      rintro e w1 ⟨rfl, hb1⟩
      go_wp2_with fail
      refine (index_w2 h hm hn hb1).mono ?_
      rintro e w3 ⟨rfl, hb3⟩
      rw [hcr]
      have hr3 := h.below hb3
      go_wp2_with (go_at_call 38; refine (left_la _ hr3).mono ?_; rintro e w4 ⟨rfl, hb4⟩)
      refine (wrong_any w4 (hr3.below hb4)).mono ?_
      rintro e w5 ⟨rfl, rfl⟩
      go_wp2
      go_ret2
      rw [HN.out]
      exact ⟨⟨rfl, (hr3.below hb4).bad⟩, grown_set (below_trans hb3 hb4) _ _ _⟩
    · have HN := Lib.hid (show Rq.number least most (l.drop p) = some none by unfold Rq.number; rw [hcr]; simp only; rw [if_neg (by rw [hdl]; exact h32)])
      have h32' : ((n - p : Nat) : Int) ≤ 32 := by omega
      clear hnl hdl
      go_enter Try.func40, Try.ntmps40
      go_wp2_with fail
      refine (left_la w h).mono ?_
      rintro e w1 ⟨rfl, hb1⟩
      go_wp2_with fail
      refine (index_w2 h hm hn hb1).mono ?_
      rintro e w3 ⟨rfl, hb3⟩
      rw [hcr]
      have hr3 := h.below hb3
      go_wp2_with (go_at_call 38; refine (left_la _ hr3).mono ?_; rintro e w4 ⟨rfl, hb4⟩)
      go_ret2
      rw [HN.out]
      exact ⟨⟨rfl, hr3.below hb4⟩, grown_of (below_trans hb3 hb4) _⟩
  · have hk2 := Rq.crlf_lt hcr
    rw [hdl] at hk2
    by_cases h32 : 32 < k
    · have HN := Lib.hid (show Rq.number least most (l.drop p) = none by unfold Rq.number; rw [hcr]; simp only; rw [if_pos h32])
      clear hnl hdl
      go_enter Try.func40, Try.ntmps40
      go_wp2_with fail
      refine (left_la w h).mono ?_
      rintro e w1 ⟨rfl, hb1⟩
      go_wp2_with fail
      have key := index_w2 h hm hn hb1
      rw [hcr] at key
      simp only [placed] at key
      refine key.mono ?_
      rintro e w3 ⟨rfl, hb3⟩
      clear key
      have hr3 := h.below hb3
      go_wp2_with fail
      refine (wrong_any w3 hr3).mono ?_
      rintro e w5 ⟨rfl, rfl⟩
      go_wp2
      go_ret2
      rw [HN.out]
      exact ⟨⟨rfl, hr3.bad⟩, grown_set hb3 _ _ _⟩
    · have hpr : ((l.drop p).take k).length = k := by rw [List.length_take, hdl]; omega
      clear hnl
      go_enter Try.func40, Try.ntmps40
      go_wp2_with fail
      refine (left_la w h).mono ?_
      rintro e w1 ⟨rfl, hb1⟩
      go_wp2_with fail
      have key := index_w2 h hm hn hb1
      rw [hcr] at key
      simp only [placed] at key
      refine key.mono ?_
      rintro e w3 ⟨rfl, hb3⟩
      clear key
      have hr3 := h.below hb3
      go_wp2_with fail
      refine (left_la w3 hr3).mono ?_
      rintro e w4 ⟨rfl, hb4⟩
      have hr4 := hr3.below hb4
      have hcv := reads_string (cap := c - p) (hr4.left.prefix_ (k := k) (by omega)) hpr.symm Try.underlying30 Try.underlying5 Try.underlying9
      have hsz : (bs ((l.drop p).take k)).size ≤ maxLen := by rw [bs_size, hpr]; unfold maxLen; omega
      have hst : ((l.drop p).drop (k + 2)).length = n - p - (k + 2) := by rw [List.length_drop, hdl]
      have HD := Lib.hid hdl
      clear hpr hdl
      rcases hprs : Num.prs ((l.drop p).take k) with _ | x
      · have HN := Lib.hid (show Rq.number least most (l.drop p) = none by unfold Rq.number; rw [hcr]; simp only; rw [if_neg h32, hprs])
        clear hst
        go_wp2_with fail
        refine (parse_none _ w4 hsz (by rw [bs_data]; exact hprs)).mono ?_
        rintro e w5 ⟨rfl, hb5⟩
        go_wp2_with fail
        refine (wrong_any w5 (hr4.below hb5)).mono ?_
        rintro e w6 ⟨rfl, rfl⟩
        go_wp2
        go_ret2
        rw [HN.out]
        exact ⟨⟨rfl, (hr4.below hb5).bad⟩, grown_set (below_trans hb3 (below_trans hb4 hb5)) _ _ _⟩
      · by_cases hx1 : x < least
        · have HN := Lib.hid (show Rq.number least most (l.drop p) = none by unfold Rq.number; rw [hcr]; simp only; rw [if_neg h32, hprs]; simp only; rw [if_pos (.inl hx1)])
          clear hst
          go_wp2_with fail
          refine (parse_some _ x w4 hsz (by rw [bs_data]; exact hprs)).mono ?_
          rintro e w5 ⟨rfl, hb5⟩
          go_wp2_with fail
          refine (wrong_any w5 (hr4.below hb5)).mono ?_
          rintro e w6 ⟨rfl, rfl⟩
          go_wp2
          go_ret2
          rw [HN.out]
          exact ⟨⟨rfl, (hr4.below hb5).bad⟩, grown_set (below_trans hb3 (below_trans hb4 hb5)) _ _ _⟩
        · by_cases hx2 : most < x
          · have HN := Lib.hid (show Rq.number least most (l.drop p) = none by unfold Rq.number; rw [hcr]; simp only; rw [if_neg h32, hprs]; simp only; rw [if_pos (.inr hx2)])
            have hx1' : least ≤ x := by omega
            clear hst
            go_wp2_with fail
            refine (parse_some _ x w4 hsz (by rw [bs_data]; exact hprs)).mono ?_
            rintro e w5 ⟨rfl, hb5⟩
            go_wp2_with fail
            refine (wrong_any w5 (hr4.below hb5)).mono ?_
            rintro e w6 ⟨rfl, rfl⟩
            go_wp2
            go_ret2
            rw [HN.out]
            exact ⟨⟨rfl, (hr4.below hb5).bad⟩, grown_set (below_trans hb3 (below_trans hb4 hb5)) _ _ _⟩
          · have HN := Lib.hid (show Rq.number least most (l.drop p) = some (some (x, (l.drop p).drop (k + 2))) by unfold Rq.number; rw [hcr]; simp only; rw [if_neg h32, hprs]; simp only; rw [if_neg (by omega)])
            have hx1' : least ≤ x := by omega
            have hx2' : x ≤ most := by omega
            have Hst := Lib.hid hst
            clear hst
            go_wp2_with fail
            refine (parse_some _ x w4 hsz (by rw [bs_data]; exact hprs)).mono ?_
            rintro e w5 ⟨rfl, hb5⟩
            have hr5 := hr4.below hb5
            have c0 := hr5.1.cell 0
            have c1 := hr5.1.cell 1
            have c2 := hr5.1.cell 2
            have f1 := hr5.1.frozen 1
            go_wp2
            go_ret2
            rw [HN.out]
            have hs := hr5.step (p + (k + 2)) (by omega)
            have hcast : (((p + (k + 2) : Nat) : Int)) = (p : Int) + ((k : Int) + 2) := by omega
            rw [hcast] at hs
            have hnr : n - ((l.drop p).drop (k + 2)).length = p + (k + 2) := by rw [Hst.out]; omega
            refine ⟨⟨rfl, ?_⟩, grown_set (below_trans hb3 (below_trans hb4 hb5)) _ _ _⟩
            rw [hnr]
            exact hs
end Go.Proofs.Ytjdnpgdedbegfaa
