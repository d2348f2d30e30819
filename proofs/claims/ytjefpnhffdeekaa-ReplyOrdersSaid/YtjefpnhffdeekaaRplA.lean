/- The walks of reply's texts, parts, bare; of cmp.Compare, cmp.Or. -/
import Derived.Test.YtjefpnhffdeekaaRplM
import Derived.WalkLawsBesides
namespace Go.Proofs.Ytjefpnhffdeekaa
open Go.RowKit
set_option linter.unusedVariables false

theorem ret_bool {a b : Bool} (h : a = b) : Ending.returned (.bool a) = .returned (.bool b) := by rw [h]
theorem texts_any (k : Int) (w : World) : Calls Try.prog 25 #[.int .i64 k] w fun e w' => e = .returned (.bool (txt k)) ∧ w = w' := by
  go_enter Try.func25, Try.ntmps25
  rcases (show k = 1 ∨ k = 2 ∨ k = 4 ∨ (k ≠ 1 ∧ k ≠ 2 ∧ k ≠ 4) by omega) with rfl | rfl | rfl | ⟨h1, h2, h4⟩
  all_goals first
    | (go_wp2_with fail
       go_ret
       exact ⟨rfl, rfl⟩)
    | (have Ht : txt k = false := decide_eq_false (by omega)
       rw [Ht]
       clear Ht
       have e1 : (k == 1) = false := by simpa using h1
       have e2 : (k == 2) = false := by simpa using h2
       have e4 : (k == 4) = false := by simpa using h4
       clear h1 h2 h4
       go_wp2_with fail
       go_ret
       exact ⟨rfl, rfl⟩)
theorem parts_any (k : Int) (w : World) : Calls Try.prog 26 #[.int .i64 k] w fun e w' => e = .returned (.bool (prt k)) ∧ w = w' := by
  go_enter Try.func26, Try.ntmps26
  rcases (show k = 7 ∨ k = 8 ∨ k = 9 ∨ (k ≠ 7 ∧ k ≠ 8 ∧ k ≠ 9) by omega) with rfl | rfl | rfl | ⟨h1, h2, h4⟩
  all_goals first
    | (go_wp2_with fail
       go_ret
       exact ⟨rfl, rfl⟩)
    | (have Ht : prt k = false := decide_eq_false (by omega)
       rw [Ht]
       clear Ht
       have e1 : (k == 7) = false := by simpa using h1
       have e2 : (k == 8) = false := by simpa using h2
       have e4 : (k == 9) = false := by simpa using h4
       clear h1 h2 h4
       go_wp2_with fail
       go_ret
       exact ⟨rfl, rfl⟩)

/-- What bare tells. -/
def bareRet (k : Int) (s : List UInt8) (n : Int) (L : Value) : Value :=
  .tuple #[.agg #[.int .i64 k, sv (if txt k then s else []), .int .i64 (if k = 3 then n else 0), .slice none 0 0], if prt k then L else .slice none 0 0]

set_option maxRecDepth 100000 in
set_option maxHeartbeats 4000000 in
theorem bare_any (k : Int) (s : List UInt8) (n : Int) (A : Option Addr) (m c : Nat) (w : World) :
    Calls Try.prog 12 #[.agg #[.int .i64 k, sv s, .int .i64 n, .slice A m c]] w fun e w' => e = .returned (bareRet k s n (.slice A m c)) ∧ Below w.heap.size w w' := by
  rcases ht : txt k with _ | _
  · rcases hp : prt k with _ | _
    · by_cases h3 : k = 3
      · have HT := Lib.hid (fun w1 => texts_any k w1)
        have HP := Lib.hid (fun w1 => parts_any k w1)
        rw [ht] at HT
        rw [hp] at HP
        have e3 : (k == 3) = true := by simpa using h3
        have HR : Hid (bareRet k s n (.slice A m c) = .tuple #[.agg #[.int .i64 k, .string ⟨#[]⟩, .int .i64 n, .slice none 0 0], .slice none 0 0]) := Lib.hid (by unfold bareRet; rw [ht, hp, if_pos h3]; rfl)
        have hX := (Blk.new (w.alloc (.cells #[.int .i64 k, sv s, .int .i64 n, .slice A m c] 25)) 25 #[.int .i64 k, .string ⟨#[]⟩, .int .i64 n, .slice none 0 0]).alloc (.cells #[.int .i64 k, .string ⟨#[]⟩, .int .i64 n, .slice none 0 0] 25)
        have HX := Lib.hid hX
        have HB := Lib.hid (((Below.refl w.heap.size w).alloc (Nat.le_refl _) (.cells #[.int .i64 k, sv s, .int .i64 n, .slice A m c] 25)).alloc (by simp) (.cells #[.int .i64 k, .string ⟨#[]⟩, .int .i64 n, .slice none 0 0] 25))
        clear ht hp h3 hX
        go_enter Try.func12, Try.ntmps12
        go_wp2_with fail
        refine (HT.out _).mono ?_
        rintro e w1 ⟨rfl, rfl⟩
        go_wp2_with fail
        refine (HP.out _).mono ?_
        rintro e w1 ⟨rfl, rfl⟩
        go_wp2_with fail
        all_goals
          refine bodyPost_ret (ret_cell2 rfl _ _ (w.heap.size + 1) _ _ _ _ _ rfl (by simpa using HX.out)) rfl ?_
          exact ⟨by rw [HR.out]; rfl, HB.out.alloc (by simp; omega) _⟩
      · have HT := Lib.hid (fun w1 => texts_any k w1)
        have HP := Lib.hid (fun w1 => parts_any k w1)
        rw [ht] at HT
        rw [hp] at HP
        have e3 : (k == 3) = false := by simpa using h3
        have HR : Hid (bareRet k s n (.slice A m c) = .tuple #[.agg #[.int .i64 k, .string ⟨#[]⟩, .int .i64 0, .slice none 0 0], .slice none 0 0]) := Lib.hid (by unfold bareRet; rw [ht, hp, if_neg h3]; rfl)
        have hX := (Blk.new (w.alloc (.cells #[.int .i64 k, sv s, .int .i64 n, .slice A m c] 25)) 25 #[.int .i64 k, .string ⟨#[]⟩, .int .i64 0, .slice none 0 0]).alloc (.cells #[.int .i64 k, .string ⟨#[]⟩, .int .i64 0, .slice none 0 0] 25)
        have HX := Lib.hid hX
        have HB := Lib.hid (((Below.refl w.heap.size w).alloc (Nat.le_refl _) (.cells #[.int .i64 k, sv s, .int .i64 n, .slice A m c] 25)).alloc (by simp) (.cells #[.int .i64 k, .string ⟨#[]⟩, .int .i64 0, .slice none 0 0] 25))
        clear ht hp h3 hX
        go_enter Try.func12, Try.ntmps12
        go_wp2_with fail
        refine (HT.out _).mono ?_
        rintro e w1 ⟨rfl, rfl⟩
        go_wp2_with fail
        refine (HP.out _).mono ?_
        rintro e w1 ⟨rfl, rfl⟩
        go_wp2_with fail
        all_goals
          refine bodyPost_ret (ret_cell2 rfl _ _ (w.heap.size + 1) _ _ _ _ _ rfl (by simpa using HX.out)) rfl ?_
          exact ⟨by rw [HR.out]; rfl, HB.out.alloc (by simp; omega) _⟩
    · have h3 : ¬ k = 3 := by intro e; rw [e] at hp; exact absurd hp (by decide)
      have HT := Lib.hid (fun w1 => texts_any k w1)
      have HP := Lib.hid (fun w1 => parts_any k w1)
      rw [ht] at HT
      rw [hp] at HP
      have e3 : (k == 3) = false := by simpa using h3
      have HR : Hid (bareRet k s n (.slice A m c) = .tuple #[.agg #[.int .i64 k, .string ⟨#[]⟩, .int .i64 0, .slice none 0 0], .slice A m c]) := Lib.hid (by unfold bareRet; rw [ht, hp, if_neg h3]; rfl)
      have hX := (Blk.new (w.alloc (.cells #[.int .i64 k, sv s, .int .i64 n, .slice A m c] 25)) 25 #[.int .i64 k, .string ⟨#[]⟩, .int .i64 0, .slice none 0 0]).alloc (.cells #[.int .i64 k, .string ⟨#[]⟩, .int .i64 0, .slice none 0 0] 25)
      have HX := Lib.hid hX
      have HB := Lib.hid (((Below.refl w.heap.size w).alloc (Nat.le_refl _) (.cells #[.int .i64 k, sv s, .int .i64 n, .slice A m c] 25)).alloc (by simp) (.cells #[.int .i64 k, .string ⟨#[]⟩, .int .i64 0, .slice none 0 0] 25))
      clear ht hp h3 hX
      go_enter Try.func12, Try.ntmps12
      go_wp2_with fail
      refine (HT.out _).mono ?_
      rintro e w1 ⟨rfl, rfl⟩
      go_wp2_with fail
      refine (HP.out _).mono ?_
      rintro e w1 ⟨rfl, rfl⟩
      go_wp2_with fail
      go_region
      go_wp2_with fail
      refine bodyPost_ret (ret_cell2 rfl _ _ (w.heap.size + 1) _ _ _ _ _ rfl (by have h9 := HX.out.drew; simpa using h9)) rfl ?_
      exact ⟨by rw [HR.out]; rfl, (HB.out.alloc (by simp; omega) _).drew⟩
  · have hp : prt k = false := by
      unfold txt at ht; unfold prt
      have := of_decide_eq_true ht
      exact decide_eq_false (by omega)
    have h3 : ¬ k = 3 := by intro e; rw [e] at ht; exact absurd ht (by decide)
    have HT := Lib.hid (fun w1 => texts_any k w1)
    have HP := Lib.hid (fun w1 => parts_any k w1)
    rw [ht] at HT
    rw [hp] at HP
    have e3 : (k == 3) = false := by simpa using h3
    have HR : Hid (bareRet k s n (.slice A m c) = .tuple #[.agg #[.int .i64 k, sv s, .int .i64 0, .slice none 0 0], .slice none 0 0]) := Lib.hid (by unfold bareRet; rw [ht, hp, if_neg h3]; rfl)
    have hX := (Blk.new (w.alloc (.cells #[.int .i64 k, sv s, .int .i64 n, .slice A m c] 25)) 25 #[.int .i64 k, sv s, .int .i64 0, .slice none 0 0]).alloc (.cells #[.int .i64 k, sv s, .int .i64 0, .slice none 0 0] 25)
    have HX := Lib.hid hX
    have HB := Lib.hid (((Below.refl w.heap.size w).alloc (Nat.le_refl _) (.cells #[.int .i64 k, sv s, .int .i64 n, .slice A m c] 25)).alloc (by simp) (.cells #[.int .i64 k, sv s, .int .i64 0, .slice none 0 0] 25))
    clear ht hp h3 hX
    go_enter Try.func12, Try.ntmps12
    go_wp2_with fail
    refine (HT.out _).mono ?_
    rintro e w1 ⟨rfl, rfl⟩
    go_wp2_with fail
    refine (HP.out _).mono ?_
    rintro e w1 ⟨rfl, rfl⟩
    go_wp2_with fail
    all_goals
      refine bodyPost_ret (ret_cell2 rfl _ _ (w.heap.size + 1) _ _ _ _ _ rfl (by simpa using HX.out)) rfl ?_
      exact ⟨by rw [HR.out]; rfl, HB.out.alloc (by simp; omega) _⟩

/-! ### cmp -/
set_option maxRecDepth 100000 in
theorem cmp_int (a b : Int) (w : World) : Calls Try.prog 29 #[.int .i64 a, .int .i64 b] w fun e w' => e = .returned (.int .i64 (cmpI a b)) ∧ w = w' := by
  rcases cmpI_val a b with ⟨h, h1⟩ | ⟨h, h1⟩ | ⟨h, h1⟩
  · rw [h]
    clear h
    go_enter Try.func29, Try.ntmps29
    go_wp2
    go_ret
    exact ⟨rfl, rfl⟩
  · rw [h]
    subst h1
    clear h
    go_enter Try.func29, Try.ntmps29
    go_wp2
    go_ret
    exact ⟨rfl, rfl⟩
  · rw [h]
    have h2 : ¬ a < b := by omega
    clear h
    go_enter Try.func29, Try.ntmps29
    go_wp2
    go_ret
    exact ⟨rfl, rfl⟩
set_option maxRecDepth 100000 in
theorem cmp_int64 (a b : Int) (w : World) : Calls Try.prog 30 #[.int .i64 a, .int .i64 b] w fun e w' => e = .returned (.int .i64 (cmpI a b)) ∧ w = w' := by
  rcases cmpI_val a b with ⟨h, h1⟩ | ⟨h, h1⟩ | ⟨h, h1⟩
  · rw [h]
    clear h
    go_enter Try.func30, Try.ntmps30
    go_wp2
    go_ret
    exact ⟨rfl, rfl⟩
  · rw [h]
    subst h1
    clear h
    go_enter Try.func30, Try.ntmps30
    go_wp2
    go_ret
    exact ⟨rfl, rfl⟩
  · rw [h]
    have h2 : ¬ a < b := by omega
    clear h
    go_enter Try.func30, Try.ntmps30
    go_wp2
    go_ret
    exact ⟨rfl, rfl⟩
theorem less_cmp : ∀ s t : List UInt8, Op.bytesLess s t = decide (cmpS s t < 0)
  | _, [] => by cases ‹List UInt8› <;> simp [Op.bytesLess, cmpS]
  | [], b :: t => by simp [Op.bytesLess, cmpS]
  | a :: s, b :: t => by
    unfold Op.bytesLess cmpS
    rcases Nat.lt_trichotomy a.toNat b.toNat with h | h | h
    · have h1 : (decide (a < b)) = true := decide_eq_true (UInt8.lt_iff_toNat_lt.2 h)
      rw [h1, if_pos h]; rfl
    · have h1 : (decide (a < b)) = false := decide_eq_false (fun e => by have := UInt8.lt_iff_toNat_lt.1 e; omega)
      have h2 : (a == b) = true := by rw [UInt8.toNat_inj.1 h]; simp
      rw [h1, h2, if_neg (by omega), if_neg (by omega), less_cmp s t]; simp
    · have h1 : (decide (a < b)) = false := decide_eq_false (fun e => by have := UInt8.lt_iff_toNat_lt.1 e; omega)
      have h2 : (a == b) = false := by rw [beq_eq_false_iff_ne]; intro e; rw [e] at h; omega
      rw [h1, h2, if_neg (by omega), if_pos h]; rfl
theorem cmpS_val : ∀ s t : List UInt8, cmpS s t = -1 ∨ (cmpS s t = 0 ∧ s = t) ∨ cmpS s t = 1
  | [], [] => by simp [cmpS]
  | [], _ :: _ => by simp [cmpS]
  | _ :: _, [] => by simp [cmpS]
  | a :: s, b :: t => by
    have ih := cmpS_val s t
    unfold cmpS
    rcases Nat.lt_trichotomy a.toNat b.toNat with h | h | h
    · simp [h]
    · rw [if_neg (by omega), if_neg (by omega), UInt8.toNat_inj.1 h]; simpa using ih
    · rw [if_neg (by omega), if_pos h]; simp
theorem cmpS_self : ∀ s : List UInt8, cmpS s s = 0
  | [] => rfl
  | a :: s => by unfold cmpS; simp [cmpS_self s]
theorem bs_beq (s t : List UInt8) : ((bs s).toList == (bs t).toList) = (s == t) := by rw [bs_toList, bs_toList]
set_option maxRecDepth 100000 in
theorem cmp_str (s t : List UInt8) (w : World) : Calls Try.prog 31 #[sv s, sv t] w fun e w' => e = .returned (.int .i64 (cmpS s t)) ∧ w = w' := by
  have hl := less_cmp s t
  rcases cmpS_val s t with h | ⟨h, h1⟩ | h
  · rw [h] at hl ⊢
    have hl1 : Op.bytesLess s t = true := by rw [hl]; rfl
    clear h hl
    go_enter Try.func31, Try.ntmps31
    go_wp2
    go_ret
    exact ⟨rfl, rfl⟩
  · subst h1
    rw [h] at hl ⊢
    have hl1 : Op.bytesLess s s = false := by rw [hl]; rfl
    clear h hl
    go_enter Try.func31, Try.ntmps31
    go_wp2
    go_ret
    exact ⟨rfl, rfl⟩
  · rw [h] at hl ⊢
    have hl1 : Op.bytesLess s t = false := by rw [hl]; rfl
    have he : (s == t) = false := by
      rw [beq_eq_false_iff_ne]
      intro e
      rw [e, cmpS_self] at h
      exact absurd h (by decide)
    clear h hl
    go_enter Try.func31, Try.ntmps31
    go_wp2
    go_ret
    exact ⟨rfl, rfl⟩
end Go.Proofs.Ytjefpnhffdeekaa
