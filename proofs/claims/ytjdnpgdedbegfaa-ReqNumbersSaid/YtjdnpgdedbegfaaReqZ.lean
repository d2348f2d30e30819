/- The rest of a request's bytes: its block, left, wrong. -/
import Derived.Test.YtjdnpgdedbegfaaReqY
namespace Go.Proofs.Ytjdnpgdedbegfaa
open Go.RowKit
set_option linter.unusedVariables false

theorem ret_sl {A A' : Option Addr} {n n' c c' : Nat} (h1 : A = A') (h2 : n = n') (h3 : c = c') : Ending.returned (.slice A n c) = .returned (.slice A' n' c') := by rw [h1, h2, h3]

/-- A rest at the block g: its bytes lie before g; at; why. -/
def Rest (w : World) (g n c : Nat) (a : Addr) (l : List UInt8) (at_ : Nat) (why : Int) : Prop :=
  Blk w g 59 #[.slice (some a) n c, .int .i64 at_, .int .i64 why] ∧ Reads w g 1 (some a) n (bv l) ∧ n = l.length ∧ n ≤ c ∧ c ≤ maxLen ∧ at_ ≤ n

set_option maxHeartbeats 1000000 in
theorem wrong_any {g n c : Nat} {a : Addr} {l : List UInt8} {p : Nat} {why : Int} (w : World) (h : Rest w g n c a l p why) :
    Calls Try.prog 39 #[.pointer (some ⟨g, 0, none⟩)] w fun e w' => e = .returned (.tuple #[.int .i64 0, .bool false]) ∧ w' = w.setCell ⟨g, 2, none⟩ (.int .i64 16) := by
  obtain ⟨hb, hr, rfl, hc, hm, hp⟩ := h
  have c0 := hb.cell 0
  have c1 := hb.cell 1
  have c2 := hb.cell 2
  have f2 := hb.frozen 2
  go_enter Try.func39, Try.ntmps39
  go_wp2
  go_ret2
  exact ⟨rfl, rfl⟩

set_option maxHeartbeats 1000000 in
theorem left_any {g n c : Nat} {a : Addr} {l : List UInt8} {p : Nat} {why : Int} (w : World) (h : Rest w g n c a l p why) :
    Calls Try.prog 38 #[.pointer (some ⟨g, 0, none⟩)] w fun e w' => e = .returned (.slice (some (if c = p then a else a.add p)) (n - p) (c - p)) ∧ ∃ q, w' = w.drewN q := by
  obtain ⟨hb, hr, rfl, hc, hm, hp⟩ := h
  have c0 := hb.cell 0
  have c1 := hb.cell 1
  have c2 := hb.cell 2
  unfold maxLen at hm
  have h1 : (0 : Int) ≤ (p : Int) := by omega
  have h2 : (p : Int) ≤ (l.length : Int) := by omega
  have h3 : (l.length : Int) ≤ (c : Int) := by omega
  by_cases hcp : c = p
  · rw [if_pos hcp]
    have hlc : l.length = c := by omega
    subst hcp
    go_enter Try.func38, Try.ntmps38
    go_wp2_with fail
    go_quiet (fail)
    go_wp2
    go_ret
    exact ⟨ret_sl rfl (by omega) (by omega), _, rfl⟩
  · rw [if_neg hcp]
    go_enter Try.func38, Try.ntmps38
    go_wp2_with fail
    go_quiet (fail)
    go_wp2
    go_ret
    exact ⟨rfl, _, rfl⟩
end Go.Proofs.Ytjdnpgdedbegfaa
