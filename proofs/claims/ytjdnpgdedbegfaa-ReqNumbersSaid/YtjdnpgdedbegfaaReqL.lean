/- The walk of bulk. -/
import Derived.Test.YtjdnpgdedbegfaaReqK
namespace Go.Proofs.Ytjdnpgdedbegfaa.Rq
theorem number_range {a b : Int} {l : B} {x : Int} {r : B} (h : number a b l = some (some (x, r))) : a ≤ x ∧ x ≤ b := by
  unfold number at h
  split at h
  · split at h <;> cases h
  · split at h
    · cases h
    · split at h
      · cases h
      · split at h
        · cases h
        · simp only [Option.some.injEq, Prod.mk.injEq] at h
          obtain ⟨rfl, rfl⟩ := h
          omega
theorem number_at {a b : Int} {l : B} {p : Nat} {x : Int} {r : B} (h : number a b (l.drop p) = some (some (x, r))) : r = l.drop (l.length - r.length) := by
  have hs := number_suf h
  exact suf_drop (hs.trans (List.drop_suffix p l))
end Go.Proofs.Ytjdnpgdedbegfaa.Rq
namespace Go.Proofs.Ytjdnpgdedbegfaa
open Go.RowKit Go.Shelf
set_option linter.unusedVariables false

theorem grown_trans {a b c : World} {row : Option Nat} (h : a.grownBy b row) (k : b.grownBy c row) : a.grownBy c row := h.trans k
theorem left_lm {g n c : Nat} {a : Addr} {l : List UInt8} {p : Nat} {why : Int} (w : World) (h : Rest w g n c a l p why) (m k : Nat) (hm : n - p = m) (hk : c - p = k) :
    Calls Try.prog 38 #[.pointer (some ⟨g, 0, none⟩)] w fun e w' => e = .returned (.slice (some (la a c p)) m k) ∧ Below w.heap.size w w' := by
  subst hm; subst hk
  exact left_la w h
theorem number_none {g n c : Nat} {a : Addr} {l : List UInt8} {p : Nat} {least most : Int} (w : World) (h : Rest w g n c a l p 0) (hm : Mx w) (hn : n ≤ 1048576) (hr : Rq.number least most (l.drop p) = none) :
    Calls Try.prog 40 #[.pointer (some ⟨g, 0, none⟩), .int .i64 least, .int .i64 most] w fun e w' => e = .returned (.tuple #[.int .i64 0, .bool false]) ∧ Rest w' g n c a l p 16 ∧ w.grownBy w' (some g) :=
  (number_any least most w h hm hn).mono fun e w' ⟨he, hg⟩ => by rw [hr] at he; exact ⟨he.1, he.2, hg⟩
theorem number_part {g n c : Nat} {a : Addr} {l : List UInt8} {p : Nat} {least most : Int} (w : World) (h : Rest w g n c a l p 0) (hm : Mx w) (hn : n ≤ 1048576) (hr : Rq.number least most (l.drop p) = some none) :
    Calls Try.prog 40 #[.pointer (some ⟨g, 0, none⟩), .int .i64 least, .int .i64 most] w fun e w' => e = .returned (.tuple #[.int .i64 0, .bool false]) ∧ Rest w' g n c a l p 0 ∧ w.grownBy w' (some g) :=
  (number_any least most w h hm hn).mono fun e w' ⟨he, hg⟩ => by rw [hr] at he; exact ⟨he.1, he.2, hg⟩
theorem number_some {g n c : Nat} {a : Addr} {l : List UInt8} {p : Nat} {least most : Int} (w : World) (h : Rest w g n c a l p 0) (hm : Mx w) (hn : n ≤ 1048576) {x : Int} {r : List UInt8} (hr : Rq.number least most (l.drop p) = some (some (x, r))) (q : Nat) (hq : n - r.length = q) :
    Calls Try.prog 40 #[.pointer (some ⟨g, 0, none⟩), .int .i64 least, .int .i64 most] w fun e w' => e = .returned (.tuple #[.int .i64 x, .bool true]) ∧ Rest w' g n c a l q 0 ∧ w.grownBy w' (some g) :=
  (number_any least most w h hm hn).mono fun e w' ⟨he, hg⟩ => by rw [hr] at he; subst hq; exact ⟨he.1, he.2, hg⟩
theorem Mx.set_ {w : World} (h : Mx w) {g : Nat} (hne : g ≠ Try.laysM185_ren.g 1) (i : Nat) (u : Value) : Mx (w.setCell ⟨g, i, none⟩ u) := by
  obtain ⟨m, hm⟩ := h
  exact ⟨m, (World.cell?_setCell_other w _ _ u (fun e => hne (by have := congrArg Addr.block e; simpa using this))).trans hm⟩
theorem Rest.mx {w : World} {g n c : Nat} {a : Addr} {l : List UInt8} {p : Nat} {why : Int} (h : Rest w g n c a l p why) (hm : Mx w) : g ≠ Try.laysM185_ren.g 1 := by
  rintro rfl
  obtain ⟨m, hm⟩ := hm
  rw [h.1.cell 0] at hm
  simp at hm
theorem Reads.byte {w : World} {B n : Nat} {a : Addr} {l : List UInt8} (h : Reads w B 1 (some a) n (bv l)) (k : Nat) (hk : k < n) (hkl : k < l.length) : w.cell? (a.add k) = some (.int .u8 l[k].toNat) := by
  obtain ⟨ad, u, h1, h2, h3, h4⟩ := h.at_ hk
  injection h1 with h1
  subst h1
  rw [h4, ← h3, bv_get l k hkl]
theorem Reads.first {w : World} {B n : Nat} {a : Addr} {l : List UInt8} (h : Reads w B 1 (some a) n (bv l)) (hk : 0 < n) (v : UInt8) (hv : l.head? = some v) : w.cell? a = some (.int .u8 v.toNat) := by
  cases l with
  | nil => cases hv
  | cons c t =>
    simp only [List.head?_cons, Option.some.injEq] at hv
    subst hv
    have := h.byte 0 hk (by simp)
    rw [show a.add 0 = a from by unfold Addr.add; rw [if_pos rfl]] at this
    exact this
theorem Rest.step_ {w : World} {g n c : Nat} {a : Addr} {l : List UInt8} {p : Nat} {why : Int} (h : Rest w g n c a l p why) (k : Nat) (hp : p + k ≤ n) : Rest (w.setCell ⟨g, 1, none⟩ (.int .i64 ((p : Int) + (k : Int)))) g n c a l (p + k) why := by
  have := h.step (p + k) hp
  rwa [Int.natCast_add] at this
theorem Rest.step1 {w : World} {g n c : Nat} {a : Addr} {l : List UInt8} {p : Nat} {why : Int} (h : Rest w g n c a l p why) (hp : p + 1 ≤ n) : Rest (w.setCell ⟨g, 1, none⟩ (.int .i64 ((p : Int) + 1))) g n c a l (p + 1) why := h.step_ 1 hp
theorem Rest.cut {w : World} {g n c : Nat} {a : Addr} {l : List UInt8} {p : Nat} {why : Int} (h : Rest w g n c a l p why) (k m : Nat) (hk : p + k + m ≤ n) (hm : 0 < m) : Reads w g 1 (some ((la a c p).add k)) m (bv ((l.drop (p + k)).take m)) := by
  have h1 := h.left.cut (k := k) (cap := c - p) (by omega) (by have := h.2.2.2.1; omega)
  rw [if_neg (by have := h.2.2.2.1; omega), Nat.mul_one, show (bv (l.drop p)).drop k = bv (l.drop (p + k)) from by simp [bv, List.map_drop, List.drop_drop]] at h1
  exact Reads.prefix_ h1 (by omega)
theorem Rest.drewN {w : World} {g n c : Nat} {a : Addr} {l : List UInt8} {p : Nat} {why : Int} (h : Rest w g n c a l p why) (q : Nat) : Rest (w.drewN q) g n c a l p why := h
/-- What bulk gives. -/
def BRet (w' : World) (e : Ending) (g n c : Nat) (a : Addr) (l : List UInt8) : Rq.Res (List UInt8) → Prop
  | none => e = .returned (.tuple #[.string ⟨#[]⟩, .bool false]) ∧ ∃ p, Rest w' g n c a l p 16
  | some none => e = .returned (.tuple #[.string ⟨#[]⟩, .bool false]) ∧ ∃ p, Rest w' g n c a l p 0
  | some (some (s, r)) => e = .returned (.tuple #[sv s, .bool true]) ∧ Rest w' g n c a l (n - r.length) 0

set_option maxHeartbeats 4000000 in
theorem bulk_any {g n c : Nat} {a : Addr} {l : List UInt8} {p : Nat} (w : World) (h : Rest w g n c a l p 0) (hm : Mx w) (hn : n ≤ 1048576) :
    Calls Try.prog 41 #[.pointer (some ⟨g, 0, none⟩)] w fun e w' => BRet w' e g n c a l (Rq.bulk (l.drop p)) ∧ w.grownBy w' (some g) := by
  have hnl : n = l.length := h.2.2.1
  have hpn : p ≤ n := h.2.2.2.2.2
  have hnc : n ≤ c := h.2.2.2.1
  have hcm : c ≤ maxLen := h.2.2.2.2.1
  have hg := h.lt
  by_cases h0 : n = p
  · have HN := Lib.hid (show Rq.bulk (l.drop p) = some none by rw [List.drop_eq_nil_of_le (by omega)]; rfl)
    have hk := left_lm w h 0 (c - p) (by omega) rfl
    clear hnl h0
    go_enter Try.func41, Try.ntmps41
    go_wp2_with fail
    refine hk.mono ?_
    rintro e w1 ⟨rfl, hb1⟩
    go_wp2_with fail
    go_ret2
    rw [HN.out]
    exact ⟨⟨rfl, p, h.below hb1⟩, grown_of hb1 _⟩
  · obtain ⟨m, hm1⟩ : ∃ m, n - p = m + 1 := ⟨n - p - 1, by omega⟩
    have hpl : p < l.length := by omega
    have hdr := Rq.drop_step hpl
    by_cases hc : l[p] = 36
    · have hbk : Rq.bulk (l.drop p) = Rq.bulk (36 :: l.drop (p + 1)) := by rw [hdr, hc]
      have hk := fun w (h : Rest w g n c a l p 0) => left_lm w h (m + 1) (c - p) hm1 rfl
      have hmx := h.mx hm
      rcases hnum : Rq.number 0 65536 (l.drop (p + 1)) with _ | _ | ⟨x, r⟩
      · have HN := Lib.hid (show Rq.bulk (l.drop p) = none by rw [hbk]; simp [Rq.bulk, hnum])
        clear hnl h0 hbk
        have hd0 : (l.drop p).head? = some 36 := by rw [hdr, hc]; rfl
        clear hdr hc
        go_enter Try.func41, Try.ntmps41
        go_wp2_with fail
        refine (hk w h).mono ?_
        rintro e w1 ⟨rfl, hb1⟩
        have h1 := h.below hb1
        go_wp2_with fail
        refine (hk w1 h1).mono ?_
        rintro e w2 ⟨rfl, hb2⟩
        have h2 := h1.below hb2
        have hc0 : w2.cell? (la a c p) = some (.int .u8 36) := h2.left.first (by omega) 36 hd0
        have c1 := h2.1.cell 1
        have f1 := h2.1.frozen 1
        go_wp2_with fail
        refine (number_none _ (h2.step1 (by omega)) ((hm.below_ (below_trans hb1 hb2)).set_ hmx _ _) hn hnum).mono ?_
        rintro e w3 ⟨rfl, h3, hg3⟩
        go_wp2_with fail
        go_ret2
        rw [HN.out]
        exact ⟨⟨rfl, _, h3⟩, grown_trans (grown_set (below_trans hb1 hb2) _ _ _) hg3⟩
      · have HN := Lib.hid (show Rq.bulk (l.drop p) = some none by rw [hbk]; simp [Rq.bulk, hnum])
        clear hnl h0 hbk
        have hd0 : (l.drop p).head? = some 36 := by rw [hdr, hc]; rfl
        clear hdr hc
        go_enter Try.func41, Try.ntmps41
        go_wp2_with fail
        refine (hk w h).mono ?_
        rintro e w1 ⟨rfl, hb1⟩
        have h1 := h.below hb1
        go_wp2_with fail
        refine (hk w1 h1).mono ?_
        rintro e w2 ⟨rfl, hb2⟩
        have h2 := h1.below hb2
        have hc0 : w2.cell? (la a c p) = some (.int .u8 36) := h2.left.first (by omega) 36 hd0
        have c1 := h2.1.cell 1
        have f1 := h2.1.frozen 1
        go_wp2_with fail
        refine (number_part _ (h2.step1 (by omega)) ((hm.below_ (below_trans hb1 hb2)).set_ hmx _ _) hn hnum).mono ?_
        rintro e w3 ⟨rfl, h3, hg3⟩
        go_wp2_with fail
        go_ret2
        rw [HN.out]
        exact ⟨⟨rfl, _, h3⟩, grown_trans (grown_set (below_trans hb1 hb2) _ _ _) hg3⟩
      · obtain ⟨hx0, hx1⟩ := Rq.number_range hnum
        obtain ⟨k, rfl⟩ : ∃ k : Nat, x = (k : Int) := ⟨x.toNat, by omega⟩
        have hra := Rq.number_at hnum
        have hrl := (Rq.number_whole [] hnum).2
        rw [List.length_drop] at hrl
        obtain ⟨q, hq⟩ : ∃ q, l.length - r.length = q := ⟨_, rfl⟩
        rw [hq] at hra
        obtain ⟨m2, hm2⟩ : ∃ m2, n - q = m2 := ⟨_, rfl⟩
        obtain ⟨k2, hk2⟩ : ∃ k2, c - q = k2 := ⟨_, rfl⟩
        have hrm : r.length = m2 := by omega
        have hd0 : (l.drop p).head? = some 36 := by rw [hdr, hc]; rfl
        have hbk2 : Rq.bulk (l.drop p) = if r.length < k + 2 then some none else if (r.drop k).take 2 = [13, 10] then some (some (r.take k, r.drop (k + 2))) else none := by rw [hbk]; simp [Rq.bulk, hnum]
        have hnq : n - r.length = q := by omega
        have hlq := fun w (h : Rest w g n c a l q 0) => left_lm w h m2 k2 hm2 hk2
        by_cases hlt : m2 < k + 2
        · have HN := Lib.hid (show Rq.bulk (l.drop p) = some none by rw [hbk2, if_pos (by omega)])
          have hlt' : (m2 : Int) < (k : Int) + 2 := by omega
          clear hnl h0 hbk hbk2 hdr hc hra hq hm2 hk2 hrm
          have HQ := Lib.hid hnq
          clear hnq hlt
          go_enter Try.func41, Try.ntmps41
          go_wp2_with fail
          refine (hk w h).mono ?_
          rintro e w1 ⟨rfl, hb1⟩
          have h1 := h.below hb1
          go_wp2_with fail
          refine (hk w1 h1).mono ?_
          rintro e w2 ⟨rfl, hb2⟩
          have h2 := h1.below hb2
          have hc0 : w2.cell? (la a c p) = some (.int .u8 36) := h2.left.first (by omega) 36 hd0
          have c1 := h2.1.cell 1
          have f1 := h2.1.frozen 1
          go_wp2_with fail
          refine (number_some _ (h2.step1 (by omega)) ((hm.below_ (below_trans hb1 hb2)).set_ hmx _ _) hn hnum q HQ.out).mono ?_
          rintro e w3 ⟨rfl, h3, hg3⟩
          go_wp2_with fail
          refine (hlq w3 h3).mono ?_
          rintro e w4 ⟨rfl, hb4⟩
          go_wp2_with fail
          go_ret2
          rw [HN.out]
          exact ⟨⟨rfl, _, h3.below hb4⟩, grown_trans (grown_trans (grown_set (below_trans hb1 hb2) _ _ _) hg3) (grown_of hb4 _)⟩
        · have hge : (k : Int) + 2 ≤ (m2 : Int) := by omega
          have hge2 : (m2 : Int) ≤ (k2 : Int) := by omega
          have hk0 : (0 : Int) ≤ (k : Int) := by omega
          have hk3 : (k : Int) ≤ (k2 : Int) := by omega
          have hk4 : (k : Int) + 2 ≤ (k2 : Int) := by omega
          have hne : ¬ k2 = k := by omega
          by_cases hend : (r.drop k).take 2 = [13, 10]
          · have HN := Lib.hid (show Rq.bulk (l.drop p) = some (some (r.take k, r.drop (k + 2))) by rw [hbk2, if_neg (by omega), if_pos hend])
            have HQ := Lib.hid hnq
            have Hqn := Lib.hid (show q + k + 2 ≤ n by omega)
            have Hl1 := Lib.hid (show ((l.drop q).take k).length = k by rw [List.length_take, ← hra]; omega)
            have Hl2 := Lib.hid (show ((l.drop (q + k)).take 2).length = 2 by rw [List.length_take, List.length_drop]; omega)
            have HL := Lib.hid (show (l.drop (q + k)).take 2 = [13, 10] by rw [← List.drop_drop, ← hra]; exact hend)
            have HR := Lib.hid (show n - (r.drop (k + 2)).length = q + (k + 2) by rw [List.length_drop]; omega)
            have HA := Lib.hid hra
            have hkw : IntKind.i64.wrap ((k : Int) + 2) = (k : Int) + 2 := by rw [IntKind.wrap_i64]; omega
            have hkn : ((k : Int) + 2).toNat = k + 2 := by omega
            have hk5 : (0 : Int) ≤ (k : Int) + 2 := by omega
            have hk6 : (k : Int) ≤ (k : Int) + 2 := by omega
            have HKW := Lib.hid hkw
            have HKN := Lib.hid hkn
            clear hkw hkn hend hnl h0 hbk hbk2 hdr hc hq hm2 hk2 hrm hnq hlt hra
            go_enter Try.func41, Try.ntmps41
            go_wp2_with fail
            refine (hk w h).mono ?_
            rintro e w1 ⟨rfl, hb1⟩
            have h1 := h.below hb1
            go_wp2_with fail
            refine (hk w1 h1).mono ?_
            rintro e w2 ⟨rfl, hb2⟩
            have h2 := h1.below hb2
            have hc0 : w2.cell? (la a c p) = some (.int .u8 36) := h2.left.first (by omega) 36 hd0
            have c1 := h2.1.cell 1
            have f1 := h2.1.frozen 1
            go_wp2_with fail
            refine (number_some _ (h2.step1 (by omega)) ((hm.below_ (below_trans hb1 hb2)).set_ hmx _ _) hn hnum q HQ.out).mono ?_
            rintro e w3 ⟨rfl, h3, hg3⟩
            go_wp2_with fail
            refine (hlq w3 h3).mono ?_
            rintro e w4 ⟨rfl, hb4⟩
            have h4 := h3.below hb4
            go_wp2_with fail
            refine (hlq w4 h4).mono ?_
            rintro e w5 ⟨rfl, hb5⟩
            have h5 := h4.below hb5
            have hcv1 := fun N => reads_string (cap := k2) ((h5.left.prefix_ (k := k) (by have := Hqn.out; omega)).drewN N) Hl1.out.symm Try.underlying30 Try.underlying5 Try.underlying9
            have hcv2 := fun N => reads_string (cap := k2 - k) ((h5.cut k 2 Hqn.out (by omega)).drewN N) Hl2.out.symm Try.underlying30 Try.underlying5 Try.underlying9
            rw [HL.out] at hcv2
            have c0' := h5.1.cell 0
            have c1' := h5.1.cell 1
            have f1' := h5.1.frozen 1
            have hq9 : q + k + 2 ≤ 1048576 := by have := Hqn.out; omega
            go_wp2_with fail
            have hkw := HKW.out
            have hkn := HKN.out
            go_quiet (fail)
            clear hkw hkn
            go_wp2_with fail
            go_ret2
            rw [HN.out]
            refine ⟨⟨by rw [HA.out]; rfl, ?_⟩, grown_trans (grown_trans (grown_set (below_trans hb1 hb2) _ _ _) hg3) (grown_set (Lib.below_drewN' (below_trans hb4 hb5) nq) _ _ _)⟩
            rw [HR.out]
            exact (h5.drewN nq).step_ (k + 2) Hqn.out
          · have HN := Lib.hid (show Rq.bulk (l.drop p) = none by rw [hbk2, if_neg (by omega), if_neg hend])
            have HQ := Lib.hid hnq
            have Hqn := Lib.hid (show q + k + 2 ≤ n by omega)
            have Hl1 := Lib.hid (show ((l.drop q).take k).length = k by rw [List.length_take, ← hra]; omega)
            have Hl2 := Lib.hid (show ((l.drop (q + k)).take 2).length = 2 by rw [List.length_take, List.length_drop]; omega)
            obtain ⟨last, hlast⟩ : ∃ last, (l.drop (q + k)).take 2 = last := ⟨_, rfl⟩
            have hend' : (last == [13, 10]) = false := beq_eq_false_iff_ne.mpr (by rw [← hlast, ← List.drop_drop, ← hra]; exact hend)
            have hend2 : (!last == [13, 10]) = true := by rw [hend']; rfl
            have HL := Lib.hid hlast
            have hkw : IntKind.i64.wrap ((k : Int) + 2) = (k : Int) + 2 := by rw [IntKind.wrap_i64]; omega
            have hkn : ((k : Int) + 2).toNat = k + 2 := by omega
            have hk5 : (0 : Int) ≤ (k : Int) + 2 := by omega
            have hk6 : (k : Int) ≤ (k : Int) + 2 := by omega
            clear hend hlast
            have HKW := Lib.hid hkw
            have HKN := Lib.hid hkn
            clear hkw hkn
            clear hnl h0 hbk hbk2 hdr hc hq hm2 hk2 hrm hnq hlt
            go_enter Try.func41, Try.ntmps41
            go_wp2_with fail
            refine (hk w h).mono ?_
            rintro e w1 ⟨rfl, hb1⟩
            have h1 := h.below hb1
            go_wp2_with fail
            refine (hk w1 h1).mono ?_
            rintro e w2 ⟨rfl, hb2⟩
            have h2 := h1.below hb2
            have hc0 : w2.cell? (la a c p) = some (.int .u8 36) := h2.left.first (by omega) 36 hd0
            have c1 := h2.1.cell 1
            have f1 := h2.1.frozen 1
            go_wp2_with fail
            refine (number_some _ (h2.step1 (by omega)) ((hm.below_ (below_trans hb1 hb2)).set_ hmx _ _) hn hnum q HQ.out).mono ?_
            rintro e w3 ⟨rfl, h3, hg3⟩
            go_wp2_with fail
            refine (hlq w3 h3).mono ?_
            rintro e w4 ⟨rfl, hb4⟩
            have h4 := h3.below hb4
            go_wp2_with fail
            refine (hlq w4 h4).mono ?_
            rintro e w5 ⟨rfl, hb5⟩
            have h5 := h4.below hb5
            have hcv1 := fun N => reads_string (cap := k2) ((h5.left.prefix_ (k := k) (by have := Hqn.out; omega)).drewN N) Hl1.out.symm Try.underlying30 Try.underlying5 Try.underlying9
            have hcv2 := fun N => reads_string (cap := k2 - k) ((h5.cut k 2 Hqn.out (by omega)).drewN N) Hl2.out.symm Try.underlying30 Try.underlying5 Try.underlying9
            rw [HL.out] at hcv2
            go_wp2_with fail
            have hkw := HKW.out
            have hkn := HKN.out
            go_quiet (fail)
            clear hkw hkn
            go_wp2_with fail
            refine (wrong_any _ (h5.drewN nq)).mono ?_
            rintro e w6 ⟨rfl, rfl⟩
            go_wp2_with fail
            go_ret2
            rw [HN.out]
            exact ⟨⟨rfl, _, (h5.drewN nq).bad⟩, grown_trans (grown_trans (grown_set (below_trans hb1 hb2) _ _ _) hg3) (grown_set (Lib.below_drewN' (below_trans hb4 hb5) nq) _ _ _)⟩
    · have HN := Lib.hid (show Rq.bulk (l.drop p) = none by rw [hdr]; simp [Rq.bulk, hc])
      have q1 := u8_nt (c := l[p]) 36 rfl hc
      have hk := fun w (h : Rest w g n c a l p 0) => left_lm w h (m + 1) (c - p) hm1 rfl
      clear hc
      have hL := h.left
      obtain ⟨v0, hv0⟩ : ∃ v0, l[p] = v0 := ⟨_, rfl⟩
      rw [hv0] at q1 hdr
      clear hnl h0
      go_enter Try.func41, Try.ntmps41
      go_wp2_with fail
      refine (hk w h).mono ?_
      rintro e w1 ⟨rfl, hb1⟩
      have h1 := h.below hb1
      go_wp2_with fail
      refine (hk w1 h1).mono ?_
      rintro e w2 ⟨rfl, hb2⟩
      have h2 := h1.below hb2
      have hc0 : w2.cell? (la a c p) = some (.int .u8 v0.toNat) := by
        exact h2.left.first (by omega) v0 (by rw [hdr]; rfl)
      go_wp2_with fail
      refine (wrong_any w2 h2).mono ?_
      rintro e w3 ⟨rfl, rfl⟩
      go_wp2_with fail
      go_ret2
      rw [HN.out]
      exact ⟨⟨rfl, p, h2.bad⟩, grown_set (below_trans hb1 hb2) _ _ _⟩
end Go.Proofs.Ytjdnpgdedbegfaa
