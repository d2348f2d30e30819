import Derived.Deep.QuietTactic
import Derived.BigQuiet
import Derived.Deep.RegionHeld3
import Derived.Outline
/- Replies: the plain tree; how one lies in memory. -/
import Derived.Test.YtjdnpgdedbegfaaDoorNum
namespace Go.Proofs.YtjdnpgdedbegfaaDoor
open Go.RowKit
set_option linter.unusedVariables false

/-- A reply: its Kind, S, N, L. -/
inductive Rep where
  | mk (k : Int) (s : List UInt8) (n : Int) (l : List Rep)
namespace Rep
def k : Rep → Int | .mk k _ _ _ => k
def s : Rep → List UInt8 | .mk _ s _ _ => s
def n : Rep → Int | .mk _ _ n _ => n
def l : Rep → List Rep | .mk _ _ _ l => l
end Rep
def fits (n : Int) : Prop := -9223372036854775808 ≤ n ∧ n ≤ 9223372036854775807

/-- The cells of a slice of replies. -/
def RD (w : World) (S : Nat → Prop) (A : Option Addr) (n : Nat) (xs : List Value) : Prop :=
  xs.length = n * 4 ∧ (0 < n → ∃ ad, A = some ad ∧ ad.spot = none ∧ S ad.block ∧ ∀ j u, xs[j]? = some u → w.cell? (ad.add j) = some u)
mutual
/-- The four cells cs are the reply r; the blocks that it leads to are all of S. -/
def RV (w : World) (S : Nat → Prop) : Rep → List Value → Prop
  | .mk k s n l, cs => ∃ A c xs, cs = [.int .i64 k, sv s, .int .i64 n, .slice A l.length c] ∧ fits k ∧ fits n ∧ s.length ≤ maxLen ∧ l.length ≤ c ∧ c ≤ maxLen ∧ RD w S A l.length xs ∧ RLs w S l xs
def RLs (w : World) (S : Nat → Prop) : List Rep → List Value → Prop
  | [], xs => xs = []
  | r :: t, xs => ∃ cs xt, xs = cs ++ xt ∧ RV w S r cs ∧ RLs w S t xt
end

theorem RD.keep {w w' : World} {S : Nat → Prop} {A : Option Addr} {n : Nat} {xs : List Value} (h : RD w S A n xs) (hk : ∀ p : Addr, S p.block → w'.cell? p = w.cell? p) : RD w' S A n xs :=
  ⟨h.1, fun hn => by
    obtain ⟨ad, h1, h0, h2, h3⟩ := h.2 hn
    exact ⟨ad, h1, h0, h2, fun j u hu => (hk _ (by rw [block_of_add]; exact h2)).trans (h3 j u hu)⟩⟩
theorem RD.mono {w : World} {S S' : Nat → Prop} {A : Option Addr} {n : Nat} {xs : List Value} (h : RD w S A n xs) (hk : ∀ b, S b → S' b) : RD w S' A n xs :=
  ⟨h.1, fun hn => by
    obtain ⟨ad, h1, h0, h2, h3⟩ := h.2 hn
    exact ⟨ad, h1, h0, hk _ h2, h3⟩⟩
mutual
theorem RV.len {w : World} {S : Nat → Prop} : ∀ {r : Rep} {cs : List Value}, RV w S r cs → cs.length = 4
  | .mk k s n l, cs, h => by
    unfold RV at h
    obtain ⟨A, c, xs, rfl, _⟩ := h
    rfl
theorem RLs.len {w : World} {S : Nat → Prop} : ∀ {l : List Rep} {xs : List Value}, RLs w S l xs → xs.length = l.length * 4
  | [], xs, h => by unfold RLs at h; rw [h]; rfl
  | r :: t, xs, h => by
    unfold RLs at h
    obtain ⟨cs, xt, rfl, h1, h2⟩ := h
    rw [List.length_append, RV.len h1, RLs.len h2, List.length_cons]; omega
end
mutual
theorem RV.keep {w w' : World} {S : Nat → Prop} (hk : ∀ p : Addr, S p.block → w'.cell? p = w.cell? p) : ∀ {r : Rep} {cs : List Value}, RV w S r cs → RV w' S r cs
  | .mk k s n l, cs, h => by
    unfold RV at h ⊢
    obtain ⟨A, c, xs, h1, h2, h3, h4, h5, h6, h7, h8⟩ := h
    exact ⟨A, c, xs, h1, h2, h3, h4, h5, h6, h7.keep hk, RLs.keep hk h8⟩
theorem RLs.keep {w w' : World} {S : Nat → Prop} (hk : ∀ p : Addr, S p.block → w'.cell? p = w.cell? p) : ∀ {l : List Rep} {xs : List Value}, RLs w S l xs → RLs w' S l xs
  | [], xs, h => by unfold RLs at h ⊢; exact h
  | r :: t, xs, h => by
    unfold RLs at h ⊢
    obtain ⟨cs, xt, h1, h2, h3⟩ := h
    exact ⟨cs, xt, h1, RV.keep hk h2, RLs.keep hk h3⟩
end
mutual
theorem RV.mono {w : World} {S S' : Nat → Prop} (hk : ∀ b, S b → S' b) : ∀ {r : Rep} {cs : List Value}, RV w S r cs → RV w S' r cs
  | .mk k s n l, cs, h => by
    unfold RV at h ⊢
    obtain ⟨A, c, xs, h1, h2, h3, h4, h5, h6, h7, h8⟩ := h
    exact ⟨A, c, xs, h1, h2, h3, h4, h5, h6, h7.mono hk, RLs.mono hk h8⟩
theorem RLs.mono {w : World} {S S' : Nat → Prop} (hk : ∀ b, S b → S' b) : ∀ {l : List Rep} {xs : List Value}, RLs w S l xs → RLs w S' l xs
  | [], xs, h => by unfold RLs at h ⊢; exact h
  | r :: t, xs, h => by
    unfold RLs at h ⊢
    obtain ⟨cs, xt, h1, h2, h3⟩ := h
    exact ⟨cs, xt, h1, RV.mono hk h2, RLs.mono hk h3⟩
end
theorem RLs.append {w : World} {S : Nat → Prop} : ∀ {l m : List Rep} {xs ys : List Value}, RLs w S l xs → RLs w S m ys → RLs w S (l ++ m) (xs ++ ys)
  | [], m, xs, ys, h, h' => by unfold RLs at h; rw [h]; exact h'
  | r :: t, m, xs, ys, h, h' => by
    unfold RLs at h
    obtain ⟨cs, xt, rfl, h2, h3⟩ := h
    rw [List.cons_append]; unfold RLs
    exact ⟨cs, xt ++ ys, by rw [List.append_assoc], h2, RLs.append h3 h'⟩
theorem RLs.one {w : World} {S : Nat → Prop} {r : Rep} {cs : List Value} (h : RV w S r cs) : RLs w S [r] cs := by
  unfold RLs; exact ⟨cs, [], by simp, h, by unfold RLs; rfl⟩
theorem RLs.nil {w : World} {S : Nat → Prop} : RLs w S [] [] := by unfold RLs; rfl
theorem RLs.drop {w : World} {S : Nat → Prop} : ∀ {l : List Rep} {xs : List Value} (i : Nat), RLs w S l xs → RLs w S (l.drop i) (xs.drop (i * 4))
  | l, xs, 0, h => by simpa using h
  | [], xs, i + 1, h => by unfold RLs at h; rw [h]; simp; exact RLs.nil
  | r :: t, xs, i + 1, h => by
    unfold RLs at h
    obtain ⟨cs, xt, rfl, h2, h3⟩ := h
    have := RLs.drop i h3
    rw [List.drop_succ_cons]
    have e : (cs ++ xt).drop ((i + 1) * 4) = xt.drop (i * 4) := by
      rw [List.drop_append, List.drop_eq_nil_of_le (by rw [RV.len h2]; omega), List.nil_append, RV.len h2]; congr 1; omega
    rw [e]; exact this
theorem RLs.take {w : World} {S : Nat → Prop} : ∀ {l : List Rep} {xs : List Value} (i : Nat), RLs w S l xs → RLs w S (l.take i) (xs.take (i * 4))
  | l, xs, 0, h => by simp; exact RLs.nil
  | [], xs, i + 1, h => by unfold RLs at h; rw [h]; simp; exact RLs.nil
  | r :: t, xs, i + 1, h => by
    unfold RLs at h
    obtain ⟨cs, xt, rfl, h2, h3⟩ := h
    have := RLs.take i h3
    rw [List.take_succ_cons]; unfold RLs
    refine ⟨cs, xt.take (i * 4), ?_, h2, this⟩
    rw [List.take_append, List.take_of_length_le (by rw [RV.len h2]; omega), RV.len h2]; congr 2; omega
/-- One of a row: its cells. -/
theorem RLs.at_ {w : World} {S : Nat → Prop} {l : List Rep} {xs : List Value} (h : RLs w S l xs) {i : Nat} {r : Rep} (hi : l[i]? = some r) : ∃ cs, RV w S r cs ∧ ∀ j, j < 4 → xs[i * 4 + j]? = cs[j]? := by
  have hlt : i < l.length := (List.getElem?_eq_some_iff.1 hi).1
  have hd := h.drop i
  rw [List.drop_eq_getElem_cons hlt] at hd
  have hr : l[i] = r := (List.getElem?_eq_some_iff.1 hi).2
  rw [hr] at hd
  unfold RLs at hd
  obtain ⟨cs, xt, h1, h2, h3⟩ := hd
  refine ⟨cs, h2, fun j hj => ?_⟩
  rw [← List.getElem?_drop, h1, List.getElem?_append_left (by rw [RV.len h2]; exact hj)]
theorem RV.fields {w : World} {S : Nat → Prop} {r : Rep} {cs : List Value} (h : RV w S r cs) : ∃ A c xs, cs = [.int .i64 r.k, sv r.s, .int .i64 r.n, .slice A r.l.length c] ∧ fits r.k ∧ fits r.n ∧ r.s.length ≤ maxLen ∧ r.l.length ≤ c ∧ c ≤ maxLen ∧ RD w S A r.l.length xs ∧ RLs w S r.l xs := by
  cases r with
  | mk k s n l => unfold RV at h; exact h
theorem RV.mk_ {w : World} {S : Nat → Prop} {k n : Int} {s : List UInt8} {l : List Rep} {A : Option Addr} {c : Nat} {xs : List Value} (hk : fits k) (hn : fits n) (hs : s.length ≤ maxLen) (hc : l.length ≤ c) (hm : c ≤ maxLen) (hd : RD w S A l.length xs) (hl : RLs w S l xs) :
    RV w S (.mk k s n l) [.int .i64 k, sv s, .int .i64 n, .slice A l.length c] := by unfold RV; exact ⟨A, c, xs, rfl, hk, hn, hs, hc, hm, hd, hl⟩
theorem RD.nil (w : World) (S : Nat → Prop) (A : Option Addr) : RD w S A 0 [] := ⟨rfl, fun h => absurd h (by omega)⟩
theorem RD.of_own {w : World} {S : Nat → Prop} {B n c : Nat} {e : TypeId} {A : Option Addr} {xs : List Value} (h : Own w B e 4 (.slice A n c) n xs) (hS : ∀ k, (Value.slice A n c).ownBlock = some k → S k) : RD w S A n xs := by
  have hr := h.own_reads (Nat.le_refl _)
  refine ⟨hr.1, fun hn => ?_⟩
  obtain ⟨ad, rfl, h2, h3⟩ := hr.2 hn
  rcases h.form with ⟨_, h0⟩ | ⟨g, cap, hv, _⟩
  · omega
  · injection hv with e1 _ _
    injection e1 with e1
    subst e1
    exact ⟨_, rfl, rfl, hS _ rfl, h3⟩
theorem spot_add {a : Addr} (h : a.spot = none) (n : Nat) : a.add n = ⟨a.block, a.off + n, none⟩ := by
  cases a; cases h; unfold Addr.add; split
  · subst n; rfl
  · rfl
/-- The cells of one of a slice, where it lies: at the addresses as the walk reckons them. -/
theorem RD.at_ {w : World} {S S' : Nat → Prop} {A : Option Addr} {n : Nat} {l : List Rep} {xs : List Value} (h : RD w S A n xs) (hl : RLs w S' l xs) (hn : l.length = n) {i : Nat} (hi : i < n) :
    ∃ a r E f, A = some a ∧ S a.block ∧ l[i]? = some r ∧ RV w S' r [.int .i64 r.k, sv r.s, .int .i64 r.n, .slice E r.l.length f] ∧
      w.cell? (a.add (i * 4)) = some (.int .i64 r.k) ∧ w.cell? ⟨(a.add (i * 4)).block, (a.add (i * 4)).off + 1, none⟩ = some (sv r.s) ∧
      w.cell? ⟨(a.add (i * 4)).block, (a.add (i * 4)).off + 2, none⟩ = some (.int .i64 r.n) ∧ w.cell? ⟨(a.add (i * 4)).block, (a.add (i * 4)).off + 3, none⟩ = some (.slice E r.l.length f) := by
  obtain ⟨a, h1, h0, h2, h3⟩ := h.2 (by omega)
  have hr : l[i]? = some l[i] := List.getElem?_eq_getElem (by omega)
  obtain ⟨cs, h4, h5⟩ := hl.at_ hr
  obtain ⟨E, f, ys, rfl, _⟩ := h4.fields
  have hc : ∀ j u, j < 4 → [Value.int .i64 l[i].k, sv l[i].s, .int .i64 l[i].n, .slice E l[i].l.length f][j]? = some u → w.cell? (a.add (i * 4 + j)) = some u := fun j u hj hu => h3 _ _ ((h5 j hj).trans hu)
  refine ⟨a, l[i], E, f, h1, h2, hr, h4, hc 0 _ (by omega) rfl, ?_, ?_, ?_⟩
  · have := hc 1 _ (by omega) rfl
    rw [spot_add h0] at this ⊢
    simpa [Nat.add_assoc] using this
  · have := hc 2 _ (by omega) rfl
    rw [spot_add h0] at this ⊢
    simpa [Nat.add_assoc] using this
  · have := hc 3 _ (by omega) rfl
    rw [spot_add h0] at this ⊢
    simpa [Nat.add_assoc] using this
end Go.Proofs.YtjdnpgdedbegfaaDoor
/- Replies by what their kind has; replies whose blocks are there. -/
namespace Go.Proofs.YtjdnpgdedbegfaaDoor
open Go.RowKit
set_option linter.unusedVariables false

def txt (k : Int) : Bool := decide (k = 1 ∨ k = 2 ∨ k = 4)
def prt (k : Int) : Bool := decide (k = 7 ∨ k = 8 ∨ k = 9)
mutual
/-- A reply by what its kind has. -/
def Rep.norm : Rep → Rep
  | .mk k s n l => .mk k (if txt k then s else []) (if k = 3 then n else 0) (if prt k then Rep.norms l else [])
def Rep.norms : List Rep → List Rep
  | [] => []
  | r :: t => r.norm :: Rep.norms t
end
theorem norms_len : ∀ l : List Rep, (Rep.norms l).length = l.length
  | [] => rfl
  | r :: t => by unfold Rep.norms; simp [norms_len t]
theorem norms_at : ∀ (l : List Rep) (i : Nat), (Rep.norms l)[i]? = l[i]?.map Rep.norm
  | [], i => rfl
  | r :: t, 0 => rfl
  | r :: t, i + 1 => by unfold Rep.norms; simpa using norms_at t i
/-- All blocks that a reply leads to are there. -/
abbrev Liv (w : World) (r : Rep) (cs : List Value) : Prop := RV w (fun b => b < w.heap.size) r cs
theorem Liv.below {w w' : World} {r : Rep} {cs : List Value} (h : Liv w r cs) (hb : Below w.heap.size w w') : Liv w' r cs :=
  RV.mono (fun b hb' => Nat.lt_of_lt_of_le hb' hb.size) (RV.keep (fun p hp => hb.cell hp) h)
theorem sizeOf_mem {k n : Int} {s : List UInt8} {l : List Rep} {r : Rep} (h : r ∈ l) : SizeOf.sizeOf r < SizeOf.sizeOf (Rep.mk k s n l) := by
  have := List.sizeOf_lt_of_mem h
  simp; omega

/-- Where the loop of Order stands. -/
theorem same_at {l m : List Rep} (h : Rep.norms l = Rep.norms m) {i : Nat} {a b : Rep} (ha : l[i]? = some a) (hb : m[i]? = some b) : a.norm = b.norm := by
  have h1 := norms_at l i
  have h2 := norms_at m i
  rw [ha] at h1; rw [hb] at h2
  rw [h, h2] at h1
  simpa using h1.symm
theorem same_len {l m : List Rep} (h : Rep.norms l = Rep.norms m) : l.length = m.length := by rw [← norms_len l, h, norms_len]

end Go.Proofs.YtjdnpgdedbegfaaDoor
/- Replies that are the same: the walk of the reference's Order. -/
namespace Go.Proofs.YtjdnpgdedbegfaaDoor
open Go.RowKit
set_option linter.unusedVariables false

theorem ret_b3 {a b c a' b' c' : Bool} (h1 : a = a') (h2 : b = b') (h3 : c = c') : Ending.returned (.tuple #[.bool a, .bool b, .bool c]) = .returned (.tuple #[.bool a', .bool b', .bool c']) := by rw [h1, h2, h3]
theorem shows_any (k : Int) (w : World) : Calls Tryd.prog 39 #[.int .i64 k] w fun e w' => e = .returned (.tuple #[.bool (txt k), .bool (decide (k = 3)), .bool (prt k)]) ∧ w = w' := by
  go_enter Tryd.func39, Tryd.ntmps39
  rcases (show k = 1 ∨ k = 2 ∨ k = 3 ∨ k = 4 ∨ k = 7 ∨ k = 8 ∨ k = 9 ∨ (k ≠ 1 ∧ k ≠ 2 ∧ k ≠ 3 ∧ k ≠ 4 ∧ k ≠ 7 ∧ k ≠ 8 ∧ k ≠ 9) by omega) with rfl | rfl | rfl | rfl | rfl | rfl | rfl | ⟨h1, h2, h3, h4, h7, h8, h9⟩
  all_goals first
    | (go_wp2_with fail
       go_ret3
       exact ⟨rfl, rfl⟩)
    | (have Ht : txt k = false := decide_eq_false (by omega)
       have Hp : prt k = false := decide_eq_false (by omega)
       have Hi : decide (k = 3) = false := decide_eq_false (by omega)
       rw [Ht, Hp, Hi]
       clear Ht Hp Hi
       have e1 : (k == 1) = false := by simpa using h1
       have e2 : (k == 2) = false := by simpa using h2
       have e3 : (k == 3) = false := by simpa using h3
       have e4 : (k == 4) = false := by simpa using h4
       have e7 : (k == 7) = false := by simpa using h7
       have e8 : (k == 8) = false := by simpa using h8
       have e9 : (k == 9) = false := by simpa using h9
       clear h1 h2 h3 h4 h7 h8 h9
       go_wp2_with fail
       go_ret3
       exact ⟨rfl, rfl⟩)
theorem shows_is {k : Int} {t i p : Bool} (w : World) (ht : txt k = t) (hi : decide (k = 3) = i) (hp : prt k = p) : Calls Tryd.prog 39 #[.int .i64 k] w fun e w' => e = .returned (.tuple #[.bool t, .bool i, .bool p]) ∧ w = w' := by
  subst ht; subst hi; subst hp; exact shows_any k w

set_option maxRecDepth 100000 in
set_option maxHeartbeats 8000000 in
theorem order_same : ∀ (N : Nat) (a b : Rep) (w : World) (cs cs' : List Value), SizeOf.sizeOf a ≤ N → Liv w a cs → Liv w b cs' → a.norm = b.norm →
    Calls Tryd.prog 25 #[.agg cs.toArray, .agg cs'.toArray] w fun e w' => e = .returned (.int .i64 0) ∧ Below w.heap.size w w' := by
  intro N
  induction N with
  | zero => intro a b w cs cs' h; cases a; simp at h
  | succ N ih =>
    intro a b w cs cs' hN ha hb hab
    obtain ⟨k, s, n, l⟩ := a
    obtain ⟨k', s', n', l'⟩ := b
    obtain ⟨A, c, xs, rfl, hk1, hn1, hs1, hlc1, hcm1, hd1, hl1⟩ := ha.fields
    obtain ⟨A', c', xs', rfl, hk2, hn2, hs2, hlc2, hcm2, hd2, hl2⟩ := hb.fields
    simp only [Rep.norm, Rep.mk.injEq] at hab
    obtain ⟨rfl, hss, hnn, hll⟩ := hab
    simp only [Rep.k, Rep.s, Rep.n, Rep.l] at *
    have hb1 : Below w.heap.size w ((w.alloc (.cells #[.int .i64 k, sv s, .int .i64 n, .slice A l.length c] 27)).alloc (.cells #[.int .i64 k, sv s', .int .i64 n', .slice A' l'.length c'] 27)) := ((Below.refl _ _).alloc (Nat.le_refl _) _).alloc (by simp) _
    have HB1 := Lib.hid hb1
    clear hb1
    rcases ht : txt k with _ | _
    · rcases hp : prt k with _ | _
      · by_cases hk3 : k = 3
        · rw [if_pos hk3, if_pos hk3] at hnn
          subst hnn
          have hd3 : decide (k = 3) = true := by simpa using hk3
          have hsh := fun w => shows_is w ht hd3 hp
          clear hk3 ht hp hd3
          go_enter Tryd.func25, Tryd.ntmps25
          go_wp2_with fail
          refine (hsh _).mono ?_
          rintro e w1 ⟨rfl, rfl⟩
          go_wp2_with fail
          go_ret
          exact ⟨rfl, HB1.out⟩
        · have hd3 : decide (k = 3) = false := by simpa using hk3
          have hsh := fun w => shows_is w ht hd3 hp
          clear hk3 ht hp hd3
          go_enter Tryd.func25, Tryd.ntmps25
          go_wp2_with fail
          refine (hsh _).mono ?_
          rintro e w1 ⟨rfl, rfl⟩
          go_wp2_with fail
          go_ret
          exact ⟨rfl, HB1.out⟩
      · have hk3 : ¬ k = 3 := by intro e; rw [e] at hp; exact absurd hp (by decide)
        have hd3 : decide (k = 3) = false := by simpa using hk3
        have hsh := fun w => shows_is w ht hd3 hp
        rw [if_pos hp, if_pos hp] at hll
        have hlen := same_len hll
        have HL := Lib.hid hll
        have Ha := Lib.hid (Liv.below ha HB1.out)
        have Hb := Lib.hid (Liv.below hb HB1.out)
        have hX1 : Blk ((w.alloc (.cells #[.int .i64 k, sv s, .int .i64 n, .slice A l.length c] 27)).alloc (.cells #[.int .i64 k, sv s', .int .i64 n', .slice A' l'.length c'] 27)) w.heap.size 27 #[.int .i64 k, sv s, .int .i64 n, .slice A l.length c] := (Blk.new w _ _).alloc _
        have hX2 : Blk ((w.alloc (.cells #[.int .i64 k, sv s, .int .i64 n, .slice A l.length c] 27)).alloc (.cells #[.int .i64 k, sv s', .int .i64 n', .slice A' l'.length c'] 27)) (w.heap.size + 1) 27 #[.int .i64 k, sv s', .int .i64 n', .slice A' l'.length c'] := by
          have := Blk.new (w.alloc (.cells #[.int .i64 k, sv s, .int .i64 n, .slice A l.length c] 27)) 27 #[.int .i64 k, sv s', .int .i64 n', .slice A' l'.length c']
          simpa using this
        have HX1 := Lib.hid hX1
        have HX2 := Lib.hid hX2
        have HD1 := Lib.hid hd1
        have HD2 := Lib.hid hd2
        have HL1 := Lib.hid hl1
        have HL2 := Lib.hid hl2
        obtain ⟨m, hm⟩ : ∃ m, l.length = m := ⟨_, rfl⟩
        have HM := Lib.hid hm
        have HM2 := Lib.hid (hlen.symm.trans hm)
        clear ha hb hX1 hX2 hd1 hd2 hl1 hl2 hll
        rw [← hlen, hm] at HX1 HX2 HD2 HB1
        rw [hm] at HD1 hlc1
        rw [← hlen, hm] at hlc2
        rw [← hlen, hm]
        clear hlen hm
        unfold maxLen at hcm1

        go_enter Tryd.func25, Tryd.ntmps25
        go_wp2_with fail
        refine (hsh _).mono ?_
        rintro e w1 ⟨rfl, rfl⟩
        go_wp2_with fail
        go_loopw [8] (fun x wr => ∃ i, i ≤ m ∧ x = .int .i64 (i : Nat) ∧ Blk wr w.heap.size 27 #[.int .i64 k, sv s, .int .i64 n, .slice A m c] ∧ Blk wr (w.heap.size + 1) 27 #[.int .i64 k, sv s', .int .i64 n', .slice A' m c'] ∧ Below w.heap.size w wr) (fun x _ => m - (intOf x).toNat)
        case atStart => exact ⟨0, Nat.zero_le _, rfl, HX1.out, HX2.out, HB1.out⟩
        case round =>
          obtain ⟨i, him, rfl, hB1, hB2, hbel⟩ := hrel
          have c3 := hB1.cell 3
          have d3 := hB2.cell 3
          rcases Nat.lt_or_ge i m with hlt | hge
          · obtain ⟨a1, r1, E1, f1, rfl, hSa1, hr1, hv1, p0, p1, p2, p3⟩ := (HD1.out.keep (fun p hp => hbel.cell hp)).at_ (HL1.out.keep (fun p hp => hbel.cell hp)) HM.out hlt
            obtain ⟨a2, r2, E2, f2, rfl, hSa2, hr2, hv2, q0, q1, q2, q3⟩ := (HD2.out.keep (fun p hp => hbel.cell hp)).at_ (HL2.out.keep (fun p hp => hbel.cell hp)) HM2.out hlt
            have HC := Lib.hid (fun w' (hb : Below wr.heap.size wr w') => ih r1 r2 w' _ _ (by have := sizeOf_mem (k := k) (n := n) (s := s) (List.mem_of_getElem? hr1); omega) (Liv.below (hv1.mono (fun b hb => Nat.lt_of_lt_of_le hb hbel.size)) hb) (Liv.below (hv2.mono (fun b hb => Nat.lt_of_lt_of_le hb hbel.size)) hb) (same_at HL.out hr1 hr2))
            have hbs : w.heap.size ≤ wr.heap.size := hbel.size
            have HK := Lib.hid (fun w' (hb : Below wr.heap.size wr w') => (show Below wr.heap.size wr w' ∧ w'.cell? ⟨w.heap.size, 3, none⟩ = some (.slice (some a1) m c) ∧ w'.cell? ⟨w.heap.size + 1, 3, none⟩ = some (.slice (some a2) m c') ∧ w'.cell? (a1.add (i * 4)) = some (.int .i64 r1.k) ∧ w'.cell? ⟨(a1.add (i * 4)).block, (a1.add (i * 4)).off + 1, none⟩ = some (sv r1.s) ∧ w'.cell? ⟨(a1.add (i * 4)).block, (a1.add (i * 4)).off + 2, none⟩ = some (.int .i64 r1.n) ∧ w'.cell? ⟨(a1.add (i * 4)).block, (a1.add (i * 4)).off + 3, none⟩ = some (.slice E1 r1.l.length f1) ∧ w'.cell? (a2.add (i * 4)) = some (.int .i64 r2.k) ∧ w'.cell? ⟨(a2.add (i * 4)).block, (a2.add (i * 4)).off + 1, none⟩ = some (sv r2.s) ∧ w'.cell? ⟨(a2.add (i * 4)).block, (a2.add (i * 4)).off + 2, none⟩ = some (.int .i64 r2.n) ∧ w'.cell? ⟨(a2.add (i * 4)).block, (a2.add (i * 4)).off + 3, none⟩ = some (.slice E2 r2.l.length f2) from ⟨hb, (hb.cell (p := ⟨w.heap.size, 3, none⟩) hB1.lt).trans c3, (hb.cell (p := ⟨w.heap.size + 1, 3, none⟩) hB2.lt).trans d3, (hb.cell (by rw [block_of_add]; omega)).trans p0, (hb.cell (by simp only [block_of_add]; omega)).trans p1, (hb.cell (by simp only [block_of_add]; omega)).trans p2, (hb.cell (by simp only [block_of_add]; omega)).trans p3, (hb.cell (by rw [block_of_add]; omega)).trans q0, (hb.cell (by simp only [block_of_add]; omega)).trans q1, (hb.cell (by simp only [block_of_add]; omega)).trans q2, (hb.cell (by simp only [block_of_add]; omega)).trans q3⟩))
            have hS0 : Below wr.heap.size wr wr := Below.refl _ _
            have hlt' : (i : Int) < (m : Int) := by omega
            go_wp2_with fail
            go_region_held3 (fun w' => Below wr.heap.size wr w' ∧ w'.cell? ⟨w.heap.size, 3, none⟩ = some (.slice (some a1) m c) ∧ w'.cell? ⟨w.heap.size + 1, 3, none⟩ = some (.slice (some a2) m c') ∧ w'.cell? (a1.add (i * 4)) = some (.int .i64 r1.k) ∧ w'.cell? ⟨(a1.add (i * 4)).block, (a1.add (i * 4)).off + 1, none⟩ = some (sv r1.s) ∧ w'.cell? ⟨(a1.add (i * 4)).block, (a1.add (i * 4)).off + 2, none⟩ = some (.int .i64 r1.n) ∧ w'.cell? ⟨(a1.add (i * 4)).block, (a1.add (i * 4)).off + 3, none⟩ = some (.slice E1 r1.l.length f1) ∧ w'.cell? (a2.add (i * 4)) = some (.int .i64 r2.k) ∧ w'.cell? ⟨(a2.add (i * 4)).block, (a2.add (i * 4)).off + 1, none⟩ = some (sv r2.s) ∧ w'.cell? ⟨(a2.add (i * 4)).block, (a2.add (i * 4)).off + 2, none⟩ = some (.int .i64 r2.n) ∧ w'.cell? ⟨(a2.add (i * 4)).block, (a2.add (i * 4)).off + 3, none⟩ = some (.slice E2 r2.l.length f2)) (first | exact HK.out _ hS0 | exact HK.out _ hS0.drew)
              (first
                | (go_at_call 25; refine (HC.out _ (by first | exact hS0 | exact hS0.drew)).mono ?_; rintro e w3 ⟨rfl, hb3⟩; have hS0 := below_trans hS0.drew hb3))
            have hb4 := hbel.trans (hS0.mono hbs)
            have hX1 := hB1.below hS0 hB1.lt
            have hX2 := hB2.below hS0 hB2.lt
            go_wp2_with fail
            go_roundw
            case rel =>
              first
                | exact ⟨i + 1, by omega, by go_num, hX1, hX2, hb4⟩
                | ((repeat apply Exists.intro); exact ⟨⟨i + 1, by omega, by go_num, hX1, hX2, hb4⟩, rfl⟩)
            case measure => simp [intOf]; omega
          · go_wp2_with fail
            go_ret
            exact ⟨rfl, hbel⟩
    · have hk3 : ¬ k = 3 := by intro e; rw [e] at ht; exact absurd ht (by decide)
      have hd3 : decide (k = 3) = false := by simpa using hk3
      have hp : prt k = false := by
        unfold txt at ht; unfold prt
        have := of_decide_eq_true ht
        exact decide_eq_false (by omega)
      rw [if_pos ht, if_pos ht] at hss
      subst hss
      have hsh := fun w => shows_is w ht hd3 hp
      clear hk3 ht hp hd3
      go_enter Tryd.func25, Tryd.ntmps25
      go_wp2_with fail
      refine (hsh _).mono ?_
      rintro e w1 ⟨rfl, rfl⟩
      go_wp2_with fail
      go_ret
      exact ⟨rfl, HB1.out⟩
set_option maxRecDepth 100000 in
set_option maxHeartbeats 4000000 in
theorem same_true {a b : Rep} {w : World} {cs cs' : List Value} (ha : Liv w a cs) (hb : Liv w b cs') (h : a.norm = b.norm) :
    Calls Tryd.prog 17 #[.agg cs.toArray, .agg cs'.toArray] w fun e w' => e = .returned (.bool true) ∧ Below w.heap.size w w' := by
  obtain ⟨A, c, xs, rfl, hk1, hn1, hs1, hlc1, hcm1, hd1, hl1⟩ := ha.fields
  obtain ⟨A', c', xs', rfl, hk2, hn2, hs2, hlc2, hcm2, hd2, hl2⟩ := hb.fields
  have hb1 : Below w.heap.size w ((w.alloc (.cells #[.int .i64 a.k, sv a.s, .int .i64 a.n, .slice A a.l.length c] 27)).alloc (.cells #[.int .i64 b.k, sv b.s, .int .i64 b.n, .slice A' b.l.length c'] 27)) := ((Below.refl _ _).alloc (Nat.le_refl _) _).alloc (by simp) _
  have HB1 := Lib.hid hb1
  have HC := Lib.hid (order_same (SizeOf.sizeOf a) a b _ _ _ (Nat.le_refl _) (ha.below hb1) (hb.below hb1) h)
  clear hb1 ha hb h hk1 hn1 hs1 hlc1 hcm1 hd1 hl1 hk2 hn2 hs2 hlc2 hcm2 hd2 hl2
  go_enter Tryd.func17, Tryd.ntmps17
  go_wp2_with fail
  refine HC.out.mono ?_
  rintro e w1 ⟨rfl, hb2⟩
  go_wp2_with fail
  go_ret
  exact ⟨rfl, HB1.out.trans (hb2.mono HB1.out.size)⟩
end Go.Proofs.YtjdnpgdedbegfaaDoor
