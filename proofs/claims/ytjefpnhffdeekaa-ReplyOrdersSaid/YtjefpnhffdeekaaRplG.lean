/- The walk of slices.SortStableFunc over few replies, by compare. -/
import Derived.Test.YtjefpnhffdeekaaRplF
namespace Go.Proofs.Ytjefpnhffdeekaa
open Go.RowKit
set_option linter.unusedVariables false

theorem RV.one1 {w : World} {S : Nat → Prop} {r : Rep} {cs : List Value} (h : RV w S r cs) : ∀ u ∈ cs, u.oneCell' = true := by
  obtain ⟨A, c, xs, rfl, _⟩ := h.fields
  intro u hu
  simp only [List.mem_cons, List.mem_nil_iff, or_false] at hu
  rcases hu with rfl | rfl | rfl | rfl <;> rfl
theorem RLs.one1 {w : World} {S : Nat → Prop} : ∀ {l : List Rep} {xs : List Value}, RLs w S l xs → ∀ u ∈ xs, u.oneCell' = true
  | [], xs, h => by unfold RLs at h; rw [h]; simp
  | r :: t, xs, h => by
    unfold RLs at h
    obtain ⟨cs, xt, rfl, h1, h2⟩ := h
    intro u hu
    rcases List.mem_append.1 hu with h | h
    · exact h1.one1 u h
    · exact RLs.one1 h2 u h
set_option maxRecDepth 100000 in
theorem inssort_nil (w : World) :
    Calls Try.prog 36 #[.slice none 0 0, .int .i64 0, .int .i64 0, .func (.func 14) #[] #[]] w fun e w' => e = .returned (.tuple #[]) ∧ w = w' := by
  go_enter Try.func36, Try.ntmps36
  go_wp2_with fail
  refine wp_loop_rounds 1 ?_
  rw [rounds_succ]
  go_wp2_with fail
  refine bodyPost_end (results_none rfl _ _ _) rfl ?_
  exact ⟨rfl, rfl⟩
theorem inssort_or {B n : Nat} {v : Value} (acc : List Rep) (w : World) (hor : OR w B v acc) (hn : acc.length = n) (hn1 : n ≤ 19) :
    Calls Try.prog 36 #[v, .int .i64 0, .int .i64 n, .func (.func 14) #[] #[]] w fun e w' => e = .returned (.tuple #[]) ∧ OR w' B v (isort lto acc) ∧ w.grownBy w' v.ownBlock := by
  subst hn
  obtain ⟨xs, h1, h2⟩ := id hor
  rcases h1.form with ⟨rfl, h0⟩ | ⟨g, cap, rfl, _⟩
  · rw [h0]
    refine (inssort_nil w).mono ?_
    rintro e w' ⟨rfl, rfl⟩
    have : acc = [] := List.eq_nil_of_length_eq_zero h0
    subst this
    exact ⟨rfl, hor, World.grownBy.refl _ _⟩
  · exact inssort_any acc w hor rfl (by omega)

set_option maxRecDepth 100000 in
set_option maxHeartbeats 2000000 in
theorem stable_or {B n : Nat} {v : Value} (acc : List Rep) (w : World) (hor : OR w B v acc) (hn : acc.length = n) (hn1 : n ≤ 19) :
    Calls Try.prog 27 #[v, .int .i64 n, .func (.func 14) #[] #[]] w fun e w' => e = .returned (.tuple #[]) ∧ OR w' B v (isort lto acc) ∧ w.grownBy w' v.ownBlock := by
  obtain ⟨A, c, rfl⟩ := hor.form
  have HC := Lib.hid (inssort_or acc w hor hn hn1)
  have i1 : ¬ (20 : Int) ≤ (n : Int) := by omega
  have i2 : ¬ (20 : Int) < (n : Int) := by omega
  rw [hn] at HC ⊢
  clear hor hn
  go_enter Try.func27, Try.ntmps27
  go_wp2_with fail
  refine wp_loop_rounds 1 ?_
  rw [rounds_succ]
  go_wp2_with fail
  refine HC.out.mono ?_
  rintro e w1 ⟨rfl, h1, h2⟩
  have H1 := Lib.hid h1
  have H2 := Lib.hid h2
  clear h1 h2 HC
  go_wp2_with fail
  refine wp_loop_rounds 1 ?_
  rw [rounds_succ]
  go_wp2_with fail
  refine bodyPost_end (results_none rfl _ _ _) rfl ?_
  exact ⟨rfl, H1.out, H2.out⟩
set_option maxRecDepth 100000 in
theorem sort_or {B : Nat} {v : Value} (acc : List Rep) (w : World) (hor : OR w B v acc) (hn1 : acc.length ≤ 19) :
    Calls Try.prog 13 #[v, .func (.func 14) #[] #[]] w fun e w' => e = .returned (.tuple #[]) ∧ OR w' B v (isort lto acc) ∧ w.grownBy w' v.ownBlock := by
  obtain ⟨A, c, rfl⟩ := hor.form
  have HC := Lib.hid (stable_or acc w hor rfl hn1)
  clear hor
  go_enter Try.func13, Try.ntmps13
  go_wp2_with fail
  refine HC.out.mono ?_
  rintro e w1 ⟨rfl, h1, h2⟩
  have H1 := Lib.hid h1
  have H2 := Lib.hid h2
  clear h1 h2
  go_wp2_with fail
  refine bodyPost_end (results_none rfl _ _ _) rfl ?_
  exact ⟨rfl, H1.out, H2.out⟩
end Go.Proofs.Ytjefpnhffdeekaa
