/- The walk of rest's bulk. -/
import Derived.Test.YtjdnpgdedbegfaaDoorRspG
namespace Go.Proofs.YtjdnpgdedbegfaaDoor
open Go.RowKit Go.Shelf
set_option linter.unusedVariables false

/-- What bulk gives. -/
def BuRet (w' : World) (e : Ending) (g n c : Nat) (A : Option Addr) (l : List UInt8) : Option (Rep × List UInt8) → Prop
  | none => ∃ s, e = .returned (.tuple #[sv s, .bool false])
  | some (r, t) => e = .returned (.tuple #[sv r.s, .bool true]) ∧ r = .mk 4 r.s 0 [] ∧ Rst w' g n c A l (n - t.length)

theorem ret_sb {a a' : ByteArray} {b b' : Bool} (h1 : a = a') (h2 : b = b') : Ending.returned (.tuple #[.string a, .bool b]) = .returned (.tuple #[.string a', .bool b']) := by rw [h1, h2]

set_option maxRecDepth 100000 in
set_option maxHeartbeats 8000000 in
theorem rbulk_any {g n c : Nat} {A : Option Addr} {l : List UInt8} {p : Nat} (x : Int) (w : World) (h : Rst w g n c A l p) (hn : n ≤ 1048576) (hx : fits x) :
    Calls Tryd.prog 35 #[.pointer (some ⟨g, 0, none⟩), .int .i64 x] w fun e w' => BuRet w' e g n c A l (Rsp.bulk x (l.drop p)) ∧ w.grownBy w' (some g) := by
  have hpn : p ≤ n := h.2.2.2.2.2
  have hnc : n ≤ c := h.2.2.2.1
  have hcm : c ≤ 9223372036854775807 := by have := h.2.2.2.2.1; unfold maxLen at this; exact this
  have HNL := Lib.hid h.2.2.1
  have hdl := Lib.hid (show (l.drop p).length = n - p by rw [List.length_drop]; have := HNL.out; omega)
  have hg := h.lt
  have c0 := h.1.cell 0
  have c1 := h.1.cell 1
  obtain ⟨hx1, hx2⟩ := hx
  by_cases hx0 : x < 0
  · have HR := Lib.hid (show Rsp.bulk x (l.drop p) = none by unfold Rsp.bulk; rw [if_pos (.inl hx0)])
    go_enter Tryd.func35, Tryd.ntmps35
    go_wp2_with fail
    go_quiet (fail)
    go_wp2_with fail
    go_ret2
    rw [HR.out]
    exact ⟨⟨_, rfl⟩, grown_of (Lib.below_drewN' (Below.refl _ _) nq) _⟩
  · obtain ⟨k, rfl⟩ : ∃ k : Nat, x = (k : Int) := ⟨x.toNat, by omega⟩
    obtain ⟨m, hm⟩ : ∃ m, n - p = m := ⟨_, rfl⟩
    have hs1 : IntKind.i64.wrap ((n : Int) - (p : Int)) = (m : Int) := by rw [IntKind.wrap_i64]; omega
    have hs2 : IntKind.i64.wrap ((m : Int) - 2) = (m : Int) - 2 := by rw [IntKind.wrap_i64]; omega
    have hk0 : ¬ (k : Int) < 0 := by omega
    by_cases hbig : (m : Int) - 2 < (k : Int)
    · have HR := Lib.hid (show Rsp.bulk (k : Int) (l.drop p) = none by unfold Rsp.bulk; rw [if_pos (.inr (by rw [hdl.out]; omega))])
      clear hm hx0
      go_enter Tryd.func35, Tryd.ntmps35
      go_wp2_with fail
      go_quiet (fail)
      go_wp2_with fail
      go_ret2
      rw [HR.out]
      exact ⟨⟨_, rfl⟩, grown_of (Lib.below_drewN' (Below.refl _ _) nq) _⟩
    · obtain ⟨a, rfl, hab⟩ := h.some_ (by omega)
      obtain ⟨q, hq⟩ : ∃ q, p + k = q := ⟨_, rfl⟩
      have hs3 : IntKind.i64.wrap ((p : Int) + (k : Int)) = (q : Int) := by rw [IntKind.wrap_i64]; omega
      have hs4 : IntKind.i64.wrap ((q : Int) + 2) = (q : Int) + 2 := by rw [IntKind.wrap_i64]; omega
      have hs5 : ((q : Int) + 2).toNat = q + 2 := by omega
      have b1 : (0 : Int) ≤ (p : Int) := by omega
      have b2 : (p : Int) ≤ (q : Int) := by omega
      have b3 : (q : Int) ≤ (c : Int) := by omega
      have b4 : (0 : Int) ≤ (q : Int) := by omega
      have b5 : (q : Int) ≤ (q : Int) + 2 := by omega
      have b6 : (q : Int) + 2 ≤ (c : Int) := by omega
      have b7 : ¬ c = p := by omega
      have b8 : ¬ c = q := by omega
      have b9 : q ≤ 1048576 := by omega
      have hqp : q - p = k := by omega
      obtain ⟨last, hlast⟩ : ∃ last, (l.drop q).take 2 = last := ⟨_, rfl⟩
      have HL1 := Lib.hid (show q - p = ((l.drop p).take (q - p)).length by rw [List.length_take, List.length_drop]; have := HNL.out; omega)
      have HL2 := Lib.hid (show 2 = last.length by rw [← hlast, List.length_take, List.length_drop]; have := HNL.out; omega)
      have HLast := Lib.hid hlast
      have hbk : Rsp.bulk (k : Int) (l.drop p) = if last = [13, 10] then some (.mk 4 ((l.drop p).take (q - p)) 0 [], l.drop (q + 2)) else none := by
        unfold Rsp.bulk
        rw [if_neg (by rw [hdl.out]; omega)]
        simp only [Int.toNat_natCast, List.drop_drop, hq, hqp, show p + (k + 2) = q + 2 by omega, hlast]
      have HT := Lib.hid (show n - (l.drop (q + 2)).length = q + 2 by rw [List.length_drop]; have := HNL.out; omega)
      have HB := Lib.hid hbk
      have hqn : q + 2 ≤ n := by omega
      have f1 := h.1.frozen 1
      have HK := Lib.hid (show (p : Int) + ((k : Int) + 2) = ((q + 2 : Nat) : Int) by omega)
      have hs6 : IntKind.i64.wrap ((k : Int) + 2) = (k : Int) + 2 := by rw [IntKind.wrap_i64]; omega
      clear hm hx0 hq hlast hbk hqp
      go_enter Tryd.func35, Tryd.ntmps35
      go_wp2_with fail
      go_quiet (fail)
      go_wp2_with fail
      have h2 : Rst (w.drewN nq) g n c (some a) l p := h
      have hbw : Below w.heap.size w (w.drewN nq) := Lib.below_drewN' (Below.refl _ _) nq
      clear c0 c1 f1
      obtain ⟨w2, hw2⟩ : ∃ w2, w.drewN nq = w2 := ⟨_, rfl⟩
      rw [hw2] at h2 hbw ⊢
      clear hw2
      have hc1 := fun N => reads_string (cap := c - p) ((h2.part p (q - p) (by omega) (by omega)).drewN N) HL1.out Tryd.underlying23 Tryd.underlying5 Tryd.underlying9
      have hc2 := fun N => reads_string (cap := c - q) (HLast.out ▸ (h2.part q 2 (by omega) (by omega)).drewN N) HL2.out Tryd.underlying23 Tryd.underlying5 Tryd.underlying9
      have c0' := h2.1.cell 0
      have c1' := h2.1.cell 1
      have f1' := h2.1.frozen 1
      go_quiet (fail)
      go_wp2_with fail
      go_ret2
      have hw : wrap64 ((p : Int) + ((k : Int) + 2)) = ((q + 2 : Nat) : Int) := by have := HK.out; unfold wrap64; omega
      rw [hw, HB.out]
      have hgw := grown_set (Lib.below_drewN' hbw nq) g 1 (.int .i64 ((q + 2 : Nat) : Int))
      by_cases hl : last = [13, 10]
      · rw [if_pos hl]
        refine ⟨⟨by rw [hl]; rfl, rfl, ?_⟩, hgw⟩
        rw [HT.out]
        exact Rst.step (w := w2.drewN nq) h2 (q + 2) hqn _ rfl
      · rw [if_neg hl]
        exact ⟨⟨(l.drop p).take (q - p), ret_sb rfl (beq_eq_false_iff_ne.mpr hl)⟩, hgw⟩
end Go.Proofs.YtjdnpgdedbegfaaDoor
