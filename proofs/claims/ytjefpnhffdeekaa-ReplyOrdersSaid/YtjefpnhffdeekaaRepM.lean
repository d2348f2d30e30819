/- Replies: the plain tree; how one lies in memory. -/
import Derived.Test.YtjefpnhffdeekaaBase
import Derived.Test.YtjefpnhffdeekaaNumP
namespace Go.Proofs.Ytjefpnhffdeekaa
open Go.RowKit
set_option linter.unusedVariables false

/-- A reply: its Kind, S, N, L. -/
inductive Rep where
  | mk (k : Int) (s : List UInt8) (n : Int) (l : List Rep)
namespace Rep
def k : Rep → Int | .mk k _ _ _ => k
def s : Rep → List UInt8 | .mk _ s _ _ => s
def n : Rep → Int | .mk _ _ n _ => n
def l : Rep → List Rep | .mk _ _ _ l => l
end Rep
def fits (n : Int) : Prop := -9223372036854775808 ≤ n ∧ n ≤ 9223372036854775807

/-- The cells of a slice of replies. -/
def RD (w : World) (S : Nat → Prop) (A : Option Addr) (n : Nat) (xs : List Value) : Prop :=
  xs.length = n * 4 ∧ (0 < n → ∃ ad, A = some ad ∧ ad.spot = none ∧ S ad.block ∧ ∀ j u, xs[j]? = some u → w.cell? (ad.add j) = some u)
mutual
/-- The four cells cs are the reply r; the blocks that it leads to are all of S. -/
def RV (w : World) (S : Nat → Prop) : Rep → List Value → Prop
  | .mk k s n l, cs => ∃ A c xs, cs = [.int .i64 k, sv s, .int .i64 n, .slice A l.length c] ∧ fits k ∧ fits n ∧ s.length ≤ maxLen ∧ l.length ≤ c ∧ c ≤ maxLen ∧ RD w S A l.length xs ∧ RLs w S l xs
def RLs (w : World) (S : Nat → Prop) : List Rep → List Value → Prop
  | [], xs => xs = []
  | r :: t, xs => ∃ cs xt, xs = cs ++ xt ∧ RV w S r cs ∧ RLs w S t xt
end

theorem RD.keep {w w' : World} {S : Nat → Prop} {A : Option Addr} {n : Nat} {xs : List Value} (h : RD w S A n xs) (hk : ∀ p : Addr, S p.block → w'.cell? p = w.cell? p) : RD w' S A n xs :=
  ⟨h.1, fun hn => by
    obtain ⟨ad, h1, h0, h2, h3⟩ := h.2 hn
    exact ⟨ad, h1, h0, h2, fun j u hu => (hk _ (by rw [block_of_add]; exact h2)).trans (h3 j u hu)⟩⟩
theorem RD.mono {w : World} {S S' : Nat → Prop} {A : Option Addr} {n : Nat} {xs : List Value} (h : RD w S A n xs) (hk : ∀ b, S b → S' b) : RD w S' A n xs :=
  ⟨h.1, fun hn => by
    obtain ⟨ad, h1, h0, h2, h3⟩ := h.2 hn
    exact ⟨ad, h1, h0, hk _ h2, h3⟩⟩
mutual
theorem RV.len {w : World} {S : Nat → Prop} : ∀ {r : Rep} {cs : List Value}, RV w S r cs → cs.length = 4
  | .mk k s n l, cs, h => by
    unfold RV at h
    obtain ⟨A, c, xs, rfl, _⟩ := h
    rfl
theorem RLs.len {w : World} {S : Nat → Prop} : ∀ {l : List Rep} {xs : List Value}, RLs w S l xs → xs.length = l.length * 4
  | [], xs, h => by unfold RLs at h; rw [h]; rfl
  | r :: t, xs, h => by
    unfold RLs at h
    obtain ⟨cs, xt, rfl, h1, h2⟩ := h
    rw [List.length_append, RV.len h1, RLs.len h2, List.length_cons]; omega
end
mutual
theorem RV.keep {w w' : World} {S : Nat → Prop} (hk : ∀ p : Addr, S p.block → w'.cell? p = w.cell? p) : ∀ {r : Rep} {cs : List Value}, RV w S r cs → RV w' S r cs
  | .mk k s n l, cs, h => by
    unfold RV at h ⊢
    obtain ⟨A, c, xs, h1, h2, h3, h4, h5, h6, h7, h8⟩ := h
    exact ⟨A, c, xs, h1, h2, h3, h4, h5, h6, h7.keep hk, RLs.keep hk h8⟩
theorem RLs.keep {w w' : World} {S : Nat → Prop} (hk : ∀ p : Addr, S p.block → w'.cell? p = w.cell? p) : ∀ {l : List Rep} {xs : List Value}, RLs w S l xs → RLs w' S l xs
  | [], xs, h => by unfold RLs at h ⊢; exact h
  | r :: t, xs, h => by
    unfold RLs at h ⊢
    obtain ⟨cs, xt, h1, h2, h3⟩ := h
    exact ⟨cs, xt, h1, RV.keep hk h2, RLs.keep hk h3⟩
end
mutual
theorem RV.mono {w : World} {S S' : Nat → Prop} (hk : ∀ b, S b → S' b) : ∀ {r : Rep} {cs : List Value}, RV w S r cs → RV w S' r cs
  | .mk k s n l, cs, h => by
    unfold RV at h ⊢
    obtain ⟨A, c, xs, h1, h2, h3, h4, h5, h6, h7, h8⟩ := h
    exact ⟨A, c, xs, h1, h2, h3, h4, h5, h6, h7.mono hk, RLs.mono hk h8⟩
theorem RLs.mono {w : World} {S S' : Nat → Prop} (hk : ∀ b, S b → S' b) : ∀ {l : List Rep} {xs : List Value}, RLs w S l xs → RLs w S' l xs
  | [], xs, h => by unfold RLs at h ⊢; exact h
  | r :: t, xs, h => by
    unfold RLs at h ⊢
    obtain ⟨cs, xt, h1, h2, h3⟩ := h
    exact ⟨cs, xt, h1, RV.mono hk h2, RLs.mono hk h3⟩
end
theorem RLs.append {w : World} {S : Nat → Prop} : ∀ {l m : List Rep} {xs ys : List Value}, RLs w S l xs → RLs w S m ys → RLs w S (l ++ m) (xs ++ ys)
  | [], m, xs, ys, h, h' => by unfold RLs at h; rw [h]; exact h'
  | r :: t, m, xs, ys, h, h' => by
    unfold RLs at h
    obtain ⟨cs, xt, rfl, h2, h3⟩ := h
    rw [List.cons_append]; unfold RLs
    exact ⟨cs, xt ++ ys, by rw [List.append_assoc], h2, RLs.append h3 h'⟩
theorem RLs.one {w : World} {S : Nat → Prop} {r : Rep} {cs : List Value} (h : RV w S r cs) : RLs w S [r] cs := by
  unfold RLs; exact ⟨cs, [], by simp, h, by unfold RLs; rfl⟩
theorem RLs.nil {w : World} {S : Nat → Prop} : RLs w S [] [] := by unfold RLs; rfl
theorem RLs.drop {w : World} {S : Nat → Prop} : ∀ {l : List Rep} {xs : List Value} (i : Nat), RLs w S l xs → RLs w S (l.drop i) (xs.drop (i * 4))
  | l, xs, 0, h => by simpa using h
  | [], xs, i + 1, h => by unfold RLs at h; rw [h]; simp; exact RLs.nil
  | r :: t, xs, i + 1, h => by
    unfold RLs at h
    obtain ⟨cs, xt, rfl, h2, h3⟩ := h
    have := RLs.drop i h3
    rw [List.drop_succ_cons]
    have e : (cs ++ xt).drop ((i + 1) * 4) = xt.drop (i * 4) := by
      rw [List.drop_append, List.drop_eq_nil_of_le (by rw [RV.len h2]; omega), List.nil_append, RV.len h2]; congr 1; omega
    rw [e]; exact this
theorem RLs.take {w : World} {S : Nat → Prop} : ∀ {l : List Rep} {xs : List Value} (i : Nat), RLs w S l xs → RLs w S (l.take i) (xs.take (i * 4))
  | l, xs, 0, h => by simp; exact RLs.nil
  | [], xs, i + 1, h => by unfold RLs at h; rw [h]; simp; exact RLs.nil
  | r :: t, xs, i + 1, h => by
    unfold RLs at h
    obtain ⟨cs, xt, rfl, h2, h3⟩ := h
    have := RLs.take i h3
    rw [List.take_succ_cons]; unfold RLs
    refine ⟨cs, xt.take (i * 4), ?_, h2, this⟩
    rw [List.take_append, List.take_of_length_le (by rw [RV.len h2]; omega), RV.len h2]; congr 2; omega
/-- One of a row: its cells. -/
theorem RLs.at_ {w : World} {S : Nat → Prop} {l : List Rep} {xs : List Value} (h : RLs w S l xs) {i : Nat} {r : Rep} (hi : l[i]? = some r) : ∃ cs, RV w S r cs ∧ ∀ j, j < 4 → xs[i * 4 + j]? = cs[j]? := by
  have hlt : i < l.length := (List.getElem?_eq_some_iff.1 hi).1
  have hd := h.drop i
  rw [List.drop_eq_getElem_cons hlt] at hd
  have hr : l[i] = r := (List.getElem?_eq_some_iff.1 hi).2
  rw [hr] at hd
  unfold RLs at hd
  obtain ⟨cs, xt, h1, h2, h3⟩ := hd
  refine ⟨cs, h2, fun j hj => ?_⟩
  rw [← List.getElem?_drop, h1, List.getElem?_append_left (by rw [RV.len h2]; exact hj)]
theorem RV.fields {w : World} {S : Nat → Prop} {r : Rep} {cs : List Value} (h : RV w S r cs) : ∃ A c xs, cs = [.int .i64 r.k, sv r.s, .int .i64 r.n, .slice A r.l.length c] ∧ fits r.k ∧ fits r.n ∧ r.s.length ≤ maxLen ∧ r.l.length ≤ c ∧ c ≤ maxLen ∧ RD w S A r.l.length xs ∧ RLs w S r.l xs := by
  cases r with
  | mk k s n l => unfold RV at h; exact h
theorem RV.mk_ {w : World} {S : Nat → Prop} {k n : Int} {s : List UInt8} {l : List Rep} {A : Option Addr} {c : Nat} {xs : List Value} (hk : fits k) (hn : fits n) (hs : s.length ≤ maxLen) (hc : l.length ≤ c) (hm : c ≤ maxLen) (hd : RD w S A l.length xs) (hl : RLs w S l xs) :
    RV w S (.mk k s n l) [.int .i64 k, sv s, .int .i64 n, .slice A l.length c] := by unfold RV; exact ⟨A, c, xs, rfl, hk, hn, hs, hc, hm, hd, hl⟩
theorem RD.nil (w : World) (S : Nat → Prop) (A : Option Addr) : RD w S A 0 [] := ⟨rfl, fun h => absurd h (by omega)⟩
theorem RD.of_own {w : World} {S : Nat → Prop} {B n c : Nat} {e : TypeId} {A : Option Addr} {xs : List Value} (h : Own w B e 4 (.slice A n c) n xs) (hS : ∀ k, (Value.slice A n c).ownBlock = some k → S k) : RD w S A n xs := by
  have hr := h.own_reads (Nat.le_refl _)
  refine ⟨hr.1, fun hn => ?_⟩
  obtain ⟨ad, rfl, h2, h3⟩ := hr.2 hn
  rcases h.form with ⟨_, h0⟩ | ⟨g, cap, hv, _⟩
  · omega
  · injection hv with e1 _ _
    injection e1 with e1
    subst e1
    exact ⟨_, rfl, rfl, hS _ rfl, h3⟩
theorem spot_add {a : Addr} (h : a.spot = none) (n : Nat) : a.add n = ⟨a.block, a.off + n, none⟩ := by
  cases a; cases h; unfold Addr.add; split
  · subst n; rfl
  · rfl
/-- The cells of one of a slice, where it lies: at the addresses as the walk reckons them. -/
theorem RD.at_ {w : World} {S S' : Nat → Prop} {A : Option Addr} {n : Nat} {l : List Rep} {xs : List Value} (h : RD w S A n xs) (hl : RLs w S' l xs) (hn : l.length = n) {i : Nat} (hi : i < n) :
    ∃ a r E f, A = some a ∧ S a.block ∧ l[i]? = some r ∧ RV w S' r [.int .i64 r.k, sv r.s, .int .i64 r.n, .slice E r.l.length f] ∧
      w.cell? (a.add (i * 4)) = some (.int .i64 r.k) ∧ w.cell? ⟨(a.add (i * 4)).block, (a.add (i * 4)).off + 1, none⟩ = some (sv r.s) ∧
      w.cell? ⟨(a.add (i * 4)).block, (a.add (i * 4)).off + 2, none⟩ = some (.int .i64 r.n) ∧ w.cell? ⟨(a.add (i * 4)).block, (a.add (i * 4)).off + 3, none⟩ = some (.slice E r.l.length f) := by
  obtain ⟨a, h1, h0, h2, h3⟩ := h.2 (by omega)
  have hr : l[i]? = some l[i] := List.getElem?_eq_getElem (by omega)
  obtain ⟨cs, h4, h5⟩ := hl.at_ hr
  obtain ⟨E, f, ys, rfl, _⟩ := h4.fields
  have hc : ∀ j u, j < 4 → [Value.int .i64 l[i].k, sv l[i].s, .int .i64 l[i].n, .slice E l[i].l.length f][j]? = some u → w.cell? (a.add (i * 4 + j)) = some u := fun j u hj hu => h3 _ _ ((h5 j hj).trans hu)
  refine ⟨a, l[i], E, f, h1, h2, hr, h4, hc 0 _ (by omega) rfl, ?_, ?_, ?_⟩
  · have := hc 1 _ (by omega) rfl
    rw [spot_add h0] at this ⊢
    simpa [Nat.add_assoc] using this
  · have := hc 2 _ (by omega) rfl
    rw [spot_add h0] at this ⊢
    simpa [Nat.add_assoc] using this
  · have := hc 3 _ (by omega) rfl
    rw [spot_add h0] at this ⊢
    simpa [Nat.add_assoc] using this
end Go.Proofs.Ytjefpnhffdeekaa
