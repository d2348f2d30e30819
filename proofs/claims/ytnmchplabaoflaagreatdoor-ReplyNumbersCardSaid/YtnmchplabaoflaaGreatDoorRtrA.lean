/- The document's answer's pairs (tallboyref17): the words. -/
import Derived.Test.YtnmchplabaoflaaGreatDoorRplL
import Derived.Test.YtnmchplabaoflaaGreatDoorRplH
namespace Go.Proofs.YtnmchplabaoflaaGreatDoor
open Go.RowKit
set_option linter.unusedVariables false

theorem Own.take {w : World} {base n m c : Nat} {e : TypeId} {size : Nat} {A : Option Addr} {xs : List Value} (h : Own w base e size (.slice A n c) n xs) (hm : m ≤ n) : Own w base e size (.slice A m c) m (xs.take (m * size)) := by
  obtain ⟨h1, h2⟩ := h
  have hms : m * size ≤ n * size := Nat.mul_le_mul_right _ hm
  refine ⟨by rw [List.length_take, h1]; omega, ?_⟩
  rcases h2 with ⟨hv, h0⟩ | ⟨g, cap, cur, fz, hv, p1, p2, p3, p4, p5, p6, p7⟩
  · injection hv with e1 e2 e3
    subst e1; subst e3
    have : m = 0 := by omega
    subst this
    exact .inl ⟨rfl, rfl⟩
  · injection hv with e1 e2 e3
    subst e1; subst e3
    refine .inr ⟨g, c, cur, fz, rfl, p1, p2, p3, by omega, p5, p6, ?_⟩
    rw [← p7, List.take_take, Nat.min_eq_left hms]
theorem ownBlock_len (A : Option Addr) (n m c : Nat) : (Value.slice A n c).ownBlock = (Value.slice A m c).ownBlock := by cases A <;> rfl
theorem OR.take {w : World} {B n m c : Nat} {A : Option Addr} {acc : List Rep} (h : OR w B (.slice A n c) acc) (hn : acc.length = n) (hm : m ≤ n) : OR w B (.slice A m c) (acc.take m) := by
  subst hn
  obtain ⟨xs, h1, h2⟩ := h
  have hl : (acc.take m).length = m := by rw [List.length_take]; omega
  refine ⟨xs.take (m * 4), by rw [hl]; exact Own.take h1 hm, ?_⟩
  rw [ownBlock_len A m acc.length c]
  exact RLs.take m h2
/-- Pairs as replies of two. -/
def two7 (p : List Rep) : Rep := .mk 7 [] 0 p
theorem lto_two (p q : List Rep) : lto (two7 p) (two7 q) = ltpo p q := by
  unfold lto ltpo two7
  rw [ord_prt (by decide)]
theorem isort_twos (ps : List (List Rep)) : isort lto (ps.map two7) = (isort ltpo ps).map two7 := (isort_map (lt := ltpo) (lt' := lto) two7 lto_two ps).symm
end Go.Proofs.YtnmchplabaoflaaGreatDoor
