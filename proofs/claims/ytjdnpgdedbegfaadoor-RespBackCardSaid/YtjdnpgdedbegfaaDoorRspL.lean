/- The walk of rest's reply. -/
import Derived.Test.YtjdnpgdedbegfaaDoorRspK
namespace Go.Proofs.YtjdnpgdedbegfaaDoor
open Go.RowKit Go.Shelf
set_option linter.unusedVariables false

set_option maxRecDepth 100000 in
set_option maxHeartbeats 8000000 in
theorem reply_short (d : Nat) (hd : d ≤ 33) {g n c : Nat} {A : Option Addr} {l : List UInt8} {p : Nat} (w : World) (h : Rst w g n c A l p) (hn : n ≤ 1048576) (hl : Rsp.lnl (l.drop p) = none ∨ (∃ t, Rsp.lnl (l.drop p) = some ([], t)) ∨ d = 0) :
    Calls Tryd.prog 23 #[.pointer (some ⟨g, 0, none⟩), .int .i64 (34 - (d : Int))] w fun e w' => RRet w w' e g n c A l none ∧ w.grownBy w' (some g) := by
  have hg := h.lt
  have h1 := h.below ((Below.refl w.heap.size w).alloc (Nat.le_refl _) (.cells #[.int .i64 0, .string ⟨#[]⟩, .int .i64 0, .slice none 0 0] 27)) hg
  have hB := Blk.new w 27 #[.int .i64 0, .string ⟨#[]⟩, .int .i64 0, .slice none 0 0]
  have hL := rline_any _ h1 hn
  obtain ⟨D, hD⟩ : ∃ D : Int, 34 - (d : Int) = D := ⟨_, rfl⟩
  rw [hD]
  have HG := Lib.hid (fun w1 (hg1 : (w.alloc (.cells #[.int .i64 0, .string ⟨#[]⟩, .int .i64 0, .slice none 0 0] 27)).grownBy w1 (some g)) => (show w.grownBy w1 (some g) from grown_trans (grown_alloc (grown_of (Below.refl _ _) _) _) hg1))
  rcases hll : Rsp.lnl (l.drop p) with _ | ⟨s, t⟩
  · rw [hll] at hL
    clear hl hll hD
    go_enter Tryd.func23, Tryd.ntmps23
    go_wp2_with fail
    refine hL.mono ?_
    rintro e w1 ⟨rfl, hg1⟩
    have hB1 := hB.grown hg1 (fun e => by injection e with e; omega)
    have k0 := hB1.cell 0
    have k1 := hB1.cell 1
    have k2 := hB1.cell 2
    have k3 := hB1.cell 3
    have z0 := hB1.frozen 0
    have z1 := hB1.frozen 1
    have z2 := hB1.frozen 2
    have z3 := hB1.frozen 3
    go_wp2_with fail
    refine bodyPost_ret (ret_cell2 rfl _ _ w.heap.size _ _ _ _ _ rfl (hB1.put4 _ _ _ _)) rfl ?_
    exact ⟨⟨_, _, _, _, _, _, rfl⟩, put4_grown (HG.out _ hg1) (Nat.le_refl _) _ _ _ _⟩
  · rw [hll] at hL
    cases s with
    | nil =>
      clear hl hll hD
      go_enter Tryd.func23, Tryd.ntmps23
      go_wp2_with fail
      refine hL.mono ?_
      rintro e w1 ⟨⟨rfl, _⟩, hg1⟩
      have hB1 := hB.grown hg1 (fun e => by injection e with e; omega)
      have k0 := hB1.cell 0
      have k1 := hB1.cell 1
      have k2 := hB1.cell 2
      have k3 := hB1.cell 3
      have z0 := hB1.frozen 0
      have z1 := hB1.frozen 1
      have z2 := hB1.frozen 2
      have z3 := hB1.frozen 3
      go_wp2_with fail
      refine bodyPost_ret (ret_cell2 rfl _ _ w.heap.size _ _ _ _ _ rfl (hB1.put4 _ _ _ _)) rfl ?_
      exact ⟨⟨_, _, _, _, _, _, rfl⟩, put4_grown (HG.out _ hg1) (Nat.le_refl _) _ _ _ _⟩
    | cons c0 body =>
      have hd0 : d = 0 := by
        rcases hl with h | ⟨t', h⟩ | h
        · rw [hll] at h; cases h
        · rw [hll] at h; cases h
        · exact h
      have hD34 : D = 34 := by omega
      subst hD34
      have hne : (c0 :: body == []) = false := rfl
      clear hl hll hD hd0
      go_enter Tryd.func23, Tryd.ntmps23
      go_wp2_with fail
      refine hL.mono ?_
      rintro e w1 ⟨⟨rfl, _⟩, hg1⟩
      have hB1 := hB.grown hg1 (fun e => by injection e with e; omega)
      have k0 := hB1.cell 0
      have k1 := hB1.cell 1
      have k2 := hB1.cell 2
      have k3 := hB1.cell 3
      have z0 := hB1.frozen 0
      have z1 := hB1.frozen 1
      have z2 := hB1.frozen 2
      have z3 := hB1.frozen 3
      go_wp2_with fail
      refine bodyPost_ret (ret_cell2 rfl _ _ w.heap.size _ _ _ _ _ rfl (hB1.put4 _ _ _ _)) rfl ?_
      exact ⟨⟨_, _, _, _, _, _, rfl⟩, put4_grown (HG.out _ hg1) (Nat.le_refl _) _ _ _ _⟩
end Go.Proofs.YtjdnpgdedbegfaaDoor
