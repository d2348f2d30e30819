/- The replies of the law RespNumbers: the leaves, those that hold views of the row's beginning; where they lie. -/
import Derived.Test.YtjdnpgdedbegfaaDoorRtpU
import Derived.Test.YtjdnpgdedbegfaaDoorRtpV
import Derived.Test.YtjdnpgdedbegfaaDoorOwn2
namespace Go.Proofs.YtjdnpgdedbegfaaDoor
open Go.RowKit Go.Shelf
set_option linter.unusedVariables false

def leaves : List Rep := [.mk 1 [97, 13, 10, 98] 0 [], .mk 2 [10] 0 [], .mk 3 [] (-9223372036854775808) [], .mk 4 [] 0 [], .mk 4 [120, 13, 10] 0 [], .mk 5 [] 0 [], .mk 6 [] 0 [], .mk 7 [] 0 [], .mk 99 [] 0 [], .mk (-1) [] 0 []]
def lcs : List Value := [.int .i64 1, .string ⟨#[97, 13, 10, 98]⟩, .int .i64 0, .slice none 0 0, .int .i64 2, .string ⟨#[10]⟩, .int .i64 0, .slice none 0 0, .int .i64 3, .string ⟨#[]⟩, .int .i64 (-9223372036854775808), .slice none 0 0, .int .i64 4, .string ⟨#[]⟩, .int .i64 0, .slice none 0 0, .int .i64 4, .string ⟨#[120, 13, 10]⟩, .int .i64 0, .slice none 0 0, .int .i64 5, .string ⟨#[]⟩, .int .i64 0, .slice none 0 0, .int .i64 6, .string ⟨#[]⟩, .int .i64 0, .slice none 0 0, .int .i64 7, .string ⟨#[]⟩, .int .i64 0, .slice none 0 0, .int .i64 99, .string ⟨#[]⟩, .int .i64 0, .slice none 0 0, .int .i64 (-1), .string ⟨#[]⟩, .int .i64 0, .slice none 0 0]
/-- A block that begins with the leaves. -/
def LB (w : World) (b : Nat) : Prop := b < w.heap.size ∧ ∀ (j : Nat) (u : Value), lcs[j]? = some u → w.cell? ⟨b, j, none⟩ = some u
theorem LB.below {w w' : World} {b : Nat} (h : LB w b) (hb : Below w.heap.size w w') : LB w' b := ⟨Nat.lt_of_lt_of_le h.1 hb.size, fun j u hu => (hb.cell (p := ⟨b, j, none⟩) h.1).trans (h.2 j u hu)⟩
theorem LB.grown {w w' : World} {b : Nat} {row : Option Nat} (h : LB w b) (hg : w.grownBy w' row) (hne : some b ≠ row) : LB w' b :=
  ⟨Nat.lt_of_lt_of_le h.1 hg.size, fun j u hu => (World.cell?_of_block (a := ⟨b, j, none⟩) (hg.block b h.1 hne)).trans (h.2 j u hu)⟩
theorem LB.of_own {w : World} {B n g c : Nat} {e : TypeId} {rest : List Value} (h : Own w B e 4 (.slice (some ⟨g, 0, none⟩) n c) n (lcs ++ rest)) : LB w g := by
  refine ⟨(h.lt g rfl).2, fun j u hu => ?_⟩
  have hj : j < lcs.length := (List.getElem?_eq_some_iff.1 hu).1
  have := h.cells (g := g) rfl j u (by rw [List.getElem?_append_left hj]; exact hu)
  rwa [spot_add rfl, Nat.zero_add] at this
theorem leaf_rv (w : World) (S : Nat → Prop) : RLs w S leaves lcs := by
  unfold leaves
  have one : ∀ (k n : Int) (s : List UInt8) (t : List Rep) (xs : List Value), fits k → fits n → s.length ≤ 20 → RLs w S t xs → RLs w S (.mk k s n [] :: t) (.int .i64 k :: sv s :: .int .i64 n :: .slice none 0 0 :: xs) := fun k n s t xs h1 h2 h3 h4 => by
    unfold RLs
    exact ⟨[.int .i64 k, sv s, .int .i64 n, .slice none 0 0], xs, rfl, RV.flat_ h1 h2 (by unfold maxLen; omega), h4⟩
  refine one _ _ _ _ _ (by unfold fits; omega) (by unfold fits; omega) (by simp) ?_
  refine one _ _ _ _ _ (by unfold fits; omega) (by unfold fits; omega) (by simp) ?_
  refine one _ _ _ _ _ (by unfold fits; omega) (by unfold fits; omega) (by simp) ?_
  refine one _ _ _ _ _ (by unfold fits; omega) (by unfold fits; omega) (by simp) ?_
  refine one _ _ _ _ _ (by unfold fits; omega) (by unfold fits; omega) (by simp) ?_
  refine one _ _ _ _ _ (by unfold fits; omega) (by unfold fits; omega) (by simp) ?_
  refine one _ _ _ _ _ (by unfold fits; omega) (by unfold fits; omega) (by simp) ?_
  refine one _ _ _ _ _ (by unfold fits; omega) (by unfold fits; omega) (by simp) ?_
  refine one _ _ _ _ _ (by unfold fits; omega) (by unfold fits; omega) (by simp) ?_
  exact one _ _ _ _ _ (by unfold fits; omega) (by unfold fits; omega) (by simp) RLs.nil
/-- A reply that holds a view of such a block. -/
theorem view_live {w : World} {b m c : Nat} (k : Int) (h : LB w b) (hm : m ≤ 10) (hc : m ≤ c) (hcm : c ≤ maxLen) (hk : fits k) :
    Liv w (.mk k [] 0 (leaves.take m)) [.int .i64 k, .string ⟨#[]⟩, .int .i64 0, .slice (some ⟨b, 0, none⟩) m c] := by
  have hl : (leaves.take m).length = m := by rw [List.length_take]; have : leaves.length = 10 := rfl; omega
  have hx : (lcs.take (m * 4)).length = m * 4 := by rw [List.length_take]; have : lcs.length = 40 := rfl; omega
  have := RV.mk_ (w := w) (S := fun b => b < w.heap.size) (k := k) (n := 0) (s := []) (l := leaves.take m) (A := some ⟨b, 0, none⟩) (c := c) hk (by unfold fits; omega) (Nat.zero_le _) (by rw [hl]; exact hc) hcm
    (xs := lcs.take (m * 4)) (by
      rw [hl]
      refine ⟨hx, fun _ => ⟨_, rfl, rfl, h.1, fun j u hu => ?_⟩⟩
      rw [spot_add rfl, Nat.zero_add]
      rw [List.getElem?_take] at hu
      split at hu
      · exact h.2 j u hu
      · cases hu) (RLs.take m (leaf_rv w _))
  rwa [hl] at this
def reps16 : List Rep := leaves ++ [.mk 7 [] 0 (leaves.take 7), .mk 7 [] 0 (leaves.take 3), .mk 8 [] 0 (leaves.take 8), .mk 8 [] 0 (leaves.take 3), .mk 9 [] 0 (leaves.take 9), .mk 9 [] 0 (leaves.take 3)]
theorem reps16_len : reps16.length = 16 := rfl
theorem reps16_enc : ∀ r ∈ reps16, ∀ t, (enc t r).length ≤ 1000 := by
  have h : (reps16.all fun r => decide ((enc true r).length ≤ 1000) && decide ((enc false r).length ≤ 1000)) = true := by decide +kernel
  intro r hr t
  have := List.all_eq_true.1 h r hr
  rw [Bool.and_eq_true] at this
  cases t
  · exact of_decide_eq_true this.2
  · exact of_decide_eq_true this.1
theorem leaves_okF : ∀ r ∈ leaves, okF 0 r := by
  intro r hr
  unfold leaves at hr
  simp only [List.mem_cons, List.mem_nil_iff, or_false] at hr
  rcases hr with rfl | rfl | rfl | rfl | rfl | rfl | rfl | rfl | rfl | rfl <;> (unfold okF fits; simp)
theorem view_okF (k : Int) (m : Nat) (hk : fits k) (hm : m ≤ 10) : okF 1 (.mk k [] 0 (leaves.take m)) := by
  unfold okF
  refine ⟨hk, by unfold fits; omega, by simp, by rw [List.length_take]; omega, fun r hr => leaves_okF r (List.mem_of_mem_take hr)⟩
theorem okF_up {r : Rep} (h : okF 0 r) : okF 1 r := by
  obtain ⟨k, s, n, l⟩ := r
  unfold okF at h ⊢
  obtain ⟨h1, h2, h3, rfl⟩ := h
  exact ⟨h1, h2, h3, by simp, by simp⟩
theorem reps16_okF : ∀ r ∈ reps16, okF 1 r := by
  intro r hr
  unfold reps16 at hr
  rcases List.mem_append.1 hr with h | h
  · exact okF_up (leaves_okF r h)
  · simp only [List.mem_cons, List.mem_nil_iff, or_false] at h
    rcases h with rfl | rfl | rfl | rfl | rfl | rfl <;> exact view_okF _ _ (by unfold fits; omega) (by omega)
end Go.Proofs.YtjdnpgdedbegfaaDoor
