/- The order of replies, and how they are sorted: the plain law (chapter 17). -/
import Derived.Test.YtjefpnhffdeekaaRepN
namespace Go.Proofs.Ytjefpnhffdeekaa
open Go.RowKit
set_option linter.unusedVariables false

/-! ### comparing -/
def or2 (a b : Int) : Int := if a ≠ 0 then a else b
def cmpI (a b : Int) : Int := if a < b then -1 else if b < a then 1 else 0
/-- Texts, byte by byte. -/
def cmpS : List UInt8 → List UInt8 → Int
  | [], [] => 0
  | [], _ :: _ => -1
  | _ :: _, [] => 1
  | a :: x, b :: y => if a.toNat < b.toNat then -1 else if b.toNat < a.toNat then 1 else cmpS x y
mutual
/-- The order of replies that have what their kind has, no more. -/
def ordn : Rep → Rep → Int
  | .mk k s n l, .mk k' s' n' l' => or2 (cmpI k k') (or2 (cmpI n n') (or2 (cmpS s s') (ords l l')))
def ords : List Rep → List Rep → Int
  | [], [] => 0
  | [], _ :: _ => -1
  | _ :: _, [] => 1
  | a :: l, b :: m => or2 (ordn a b) (ords l m)
end
/-- The order of replies. -/
def ord (a b : Rep) : Int := ordn a.norm b.norm

/-! ### the same order on rows of numbers -/
def cmpL : List Int → List Int → Int
  | [], [] => 0
  | [], _ :: _ => -1
  | _ :: _, [] => 1
  | a :: x, b :: y => or2 (cmpI a b) (cmpL x y)
def keyS : List UInt8 → List Int
  | [] => [0]
  | c :: s => ((c.toNat : Int) + 1) :: keyS s
mutual
def key : Rep → List Int
  | .mk k s n l => k :: n :: (keyS s ++ keys l)
def keys : List Rep → List Int
  | [] => [0]
  | r :: t => 1 :: (key r ++ keys t)
end
theorem or2_assoc (a b c : Int) : or2 a (or2 b c) = or2 (or2 a b) c := by unfold or2; split <;> (try split) <;> simp_all
theorem or2_zero (a : Int) : or2 0 a = a := rfl
theorem or2_zero' (a : Int) : or2 a 0 = a := by unfold or2; split <;> simp_all
theorem cmpI_self (a : Int) : cmpI a a = 0 := by unfold cmpI; simp
theorem cmpL_keyS : ∀ (s t : List UInt8) (x y : List Int), cmpL (keyS s ++ x) (keyS t ++ y) = or2 (cmpS s t) (cmpL x y)
  | [], [], x, y => by simp [keyS, cmpL, cmpI_self, cmpS]
  | [], b :: t, x, y => by
    have h : cmpI 0 ((b.toNat : Int) + 1) = -1 := by unfold cmpI; rw [if_pos (by omega)]
    simp [keyS, cmpL, cmpS, h, or2]
  | a :: s, [], x, y => by
    have h : cmpI ((a.toNat : Int) + 1) 0 = 1 := by unfold cmpI; rw [if_neg (by omega), if_pos (by omega)]
    simp [keyS, cmpL, cmpS, h, or2]
  | a :: s, b :: t, x, y => by
    simp only [keyS, List.cons_append, cmpL, cmpL_keyS s t x y, cmpS]
    rcases Nat.lt_trichotomy a.toNat b.toNat with h | h | h
    · have e : cmpI ((a.toNat : Int) + 1) ((b.toNat : Int) + 1) = -1 := by unfold cmpI; rw [if_pos (by omega)]
      simp [e, h, or2]
    · have e : cmpI ((a.toNat : Int) + 1) ((b.toNat : Int) + 1) = 0 := by unfold cmpI; rw [if_neg (by omega), if_neg (by omega)]
      rw [e, if_neg (by omega), if_neg (by omega), or2_zero]
    · have e : cmpI ((a.toNat : Int) + 1) ((b.toNat : Int) + 1) = 1 := by unfold cmpI; rw [if_neg (by omega), if_pos (by omega)]
      simp [e, h, or2, Nat.lt_asymm h]
mutual
theorem cmpL_key : ∀ (a b : Rep) (x y : List Int), cmpL (key a ++ x) (key b ++ y) = or2 (ordn a b) (cmpL x y)
  | .mk k s n l, .mk k' s' n' l', x, y => by
    simp only [key, ordn, List.cons_append, List.append_assoc, cmpL, cmpL_keyS, cmpL_keys l l' x y, or2_assoc]
theorem cmpL_keys : ∀ (l m : List Rep) (x y : List Int), cmpL (keys l ++ x) (keys m ++ y) = or2 (ords l m) (cmpL x y)
  | [], [], x, y => by simp [keys, ords, cmpL, cmpI_self]
  | [], b :: m, x, y => by simp [keys, ords, cmpL, cmpI, or2]
  | a :: l, [], x, y => by simp [keys, ords, cmpL, cmpI, or2]
  | a :: l, b :: m, x, y => by
    simp only [keys, ords, List.cons_append, List.append_assoc, cmpL, cmpI_self, or2_zero, cmpL_key a b, cmpL_keys l m x y, or2_assoc]
end
theorem ordn_key (a b : Rep) : ordn a b = cmpL (key a) (key b) := by
  have := cmpL_key a b [] []
  simp only [List.append_nil, cmpL, or2_zero'] at this
  exact this.symm
theorem ords_key (a b : List Rep) : ords a b = cmpL (keys a) (keys b) := by
  have := cmpL_keys a b [] []
  simp only [List.append_nil, cmpL, or2_zero'] at this
  exact this.symm
theorem cmpL_self : ∀ a : List Int, cmpL a a = 0
  | [] => rfl
  | x :: a => by simp [cmpL, cmpI_self, cmpL_self a, or2]
theorem cmpI_neg (a b : Int) : cmpI b a = -cmpI a b := by unfold cmpI; split <;> split <;> (try split) <;> omega
theorem cmpI_val (a b : Int) : (cmpI a b = -1 ∧ a < b) ∨ (cmpI a b = 0 ∧ a = b) ∨ (cmpI a b = 1 ∧ b < a) := by unfold cmpI; split <;> (try split) <;> omega
theorem cmpL_val : ∀ a b : List Int, cmpL a b = -1 ∨ cmpL a b = 0 ∨ cmpL a b = 1
  | [], [] => by simp [cmpL]
  | [], _ :: _ => by simp [cmpL]
  | _ :: _, [] => by simp [cmpL]
  | x :: a, y :: b => by
    have := cmpL_val a b
    rcases cmpI_val x y with h | h | h <;> simp [cmpL, or2, h.1] <;> omega
theorem cmpL_neg : ∀ a b : List Int, cmpL b a = -cmpL a b
  | [], [] => rfl
  | [], _ :: _ => rfl
  | _ :: _, [] => rfl
  | x :: a, y :: b => by
    have := cmpL_neg a b
    have h1 := cmpI_neg x y
    rcases cmpI_val x y with h | h | h <;> simp [cmpL, or2, h1, h.1, this]
theorem cmpL_zero : ∀ {a b : List Int}, cmpL a b = 0 → a = b
  | [], [], _ => rfl
  | [], _ :: _, h => by simp [cmpL] at h
  | _ :: _, [], h => by simp [cmpL] at h
  | x :: a, y :: b, h => by
    rcases cmpI_val x y with h1 | h1 | h1 <;> simp [cmpL, or2, h1.1] at h
    rw [h1.2, cmpL_zero h]
theorem cmpL_trans : ∀ {a b c : List Int}, cmpL a b ≤ 0 → cmpL b c ≤ 0 → cmpL a c ≤ 0
  | [], _, [], _, _ => by simp [cmpL]
  | [], _, _ :: _, _, _ => by simp [cmpL]
  | _ :: _, [], _, h, _ => by simp [cmpL] at h
  | _ :: _, _ :: _, [], _, h => by simp [cmpL] at h
  | x :: a, y :: b, z :: c, h, h' => by
    have ih := @cmpL_trans a b c
    rcases cmpI_val x y with h1 | h1 | h1 <;> rcases cmpI_val y z with h2 | h2 | h2 <;> rcases cmpI_val x z with h3 | h3 | h3 <;> simp [cmpL, or2, h1.1, h2.1, h3.1] at h h' ⊢ <;> first | omega | exact ih h h'
mutual
theorem ordn_zero : ∀ {a b : Rep}, ordn a b = 0 → a = b
  | .mk k s n l, .mk k' s' n' l', h => by
    have hS : ∀ s s' : List UInt8, cmpS s s' = 0 → s = s' := by
      intro s
      induction s with
      | nil => intro s' h; cases s' with
        | nil => rfl
        | cons _ _ => simp [cmpS] at h
      | cons a s ih => intro s' h; cases s' with
        | nil => simp [cmpS] at h
        | cons b t =>
          unfold cmpS at h
          split at h
          · simp at h
          · split at h
            · simp at h
            · rw [UInt8.toNat_inj.1 (by omega : a.toNat = b.toNat), ih t h]
    unfold ordn or2 at h
    rcases cmpI_val k k' with h1 | h1 | h1 <;> simp [h1.1] at h
    rcases cmpI_val n n' with h2 | h2 | h2 <;> simp [h2.1] at h
    by_cases h3 : cmpS s s' = 0
    · simp [h3] at h
      rw [h1.2, h2.2, hS _ _ h3, ords_zero h]
    · simp [h3] at h
theorem ords_zero : ∀ {l m : List Rep}, ords l m = 0 → l = m
  | [], [], _ => rfl
  | [], _ :: _, h => by simp [ords] at h
  | _ :: _, [], h => by simp [ords] at h
  | a :: l, b :: m, h => by
    unfold ords or2 at h
    by_cases h1 : ordn a b = 0
    · simp [h1] at h
      rw [ordn_zero h1, ords_zero h]
    · simp [h1] at h
end
theorem ordn_self (a : Rep) : ordn a a = 0 := by rw [ordn_key, cmpL_self]
theorem ordn_iff (a b : Rep) : ordn a b = 0 ↔ a = b := ⟨ordn_zero, fun h => h ▸ ordn_self a⟩
theorem ords_self (a : List Rep) : ords a a = 0 := by rw [ords_key, cmpL_self]
end Go.Proofs.Ytjefpnhffdeekaa
