/- The walk of Flat. -/
import Derived.Test.YtjdnpgdedbegfaaDoorRspR
namespace Go.Proofs.YtjdnpgdedbegfaaDoor
open Go.RowKit Go.Shelf
set_option linter.unusedVariables false

/-- A row of replies of one's own gets one more. -/
theorem RLs.push {B : Nat} {wr w1 w3 w4 : World} {acc : List Rep} {i : Nat} {v v' : Value} {xs cs : List Value} {r : Rep}
    (hBw : B ≤ wr.heap.size) (hown : Own wr B 27 4 v i xs) (hrl : RLs wr (fun b => B ≤ b ∧ b < wr.heap.size ∧ some b ≠ v.ownBlock) acc xs)
    (hb1 : Below wr.heap.size wr w1) (hrv : RV w1 (New wr w1) r cs) (hb3 : Below w1.heap.size w1 w3) (hg4 : w3.grownBy w4 v.ownBlock) (hat : v'.ownBlock = v.ownBlock ∨ v'.ownBlock = some w3.heap.size) :
    RLs w4 (fun b => B ≤ b ∧ b < w4.heap.size ∧ some b ≠ v'.ownBlock) (acc ++ [r]) (xs ++ cs) := by
  have hsz := hb1.size
  have hsz3 := hb3.size
  have hsz4 := hg4.size
  have hlt := hown.lt
  have hc14 : ∀ p : Addr, p.block < w1.heap.size → some p.block ≠ v.ownBlock → w4.cell? p = w1.cell? p := fun p hp hne =>
    (World.cell?_of_block (hg4.block _ (Nat.lt_of_lt_of_le hp hsz3) hne)).trans (hb3.cell hp)
  have hnv : ∀ b, wr.heap.size ≤ b → some b ≠ v.ownBlock := fun b hb e => by have := (hlt b e.symm).2; omega
  refine RLs.append ?_ (RLs.one ?_)
  · refine RLs.mono ?_ (RLs.keep (S := fun b => B ≤ b ∧ b < wr.heap.size ∧ some b ≠ v.ownBlock) ?_ hrl)
    · intro b hb
      refine ⟨hb.1, by omega, fun e => ?_⟩
      rcases hat with h | h
      · exact hb.2.2 (e.trans h)
      · rw [h] at e; injection e with e; have := hb.2.1; omega
    · intro p hp
      rw [hc14 p (Nat.lt_of_lt_of_le hp.2.1 hsz) hp.2.2, hb1.cell hp.2.1]
  · refine RV.mono ?_ (RV.keep (S := New wr w1) ?_ hrv)
    · intro b hb
      refine ⟨Nat.le_trans hBw hb.1, by have := hb.2; omega, fun e => ?_⟩
      rcases hat with h | h
      · exact hnv b hb.1 (e.trans h)
      · rw [h] at e; injection e with e; have := hb.2; omega
    · intro p hp
      exact hc14 p hp.2 (hnv _ hp.1)
theorem RLs.far {B : Nat} {w : World} {acc : List Rep} {v : Value} {xs : List Value} (h : RLs w (fun b => B ≤ b ∧ b < w.heap.size ∧ some b ≠ v.ownBlock) acc xs) {g : Nat} (hg : g < B) (i : Nat) (u : Value) :
    RLs (w.setCell ⟨g, i, none⟩ u) (fun b => B ≤ b ∧ b < (w.setCell ⟨g, i, none⟩ u).heap.size ∧ some b ≠ v.ownBlock) acc xs := by
  rw [World.setCell_size]
  exact RLs.keep (fun p hp => World.cell?_setCell_other _ _ _ _ (fun e => by subst e; have := hp.1; simp at this; omega)) h
/-- A row of replies of one's own, all its parts new from B on. -/
def OR (w : World) (B : Nat) (v : Value) (acc : List Rep) : Prop :=
  ∃ xs, Own w B 27 4 v acc.length xs ∧ RLs w (fun b => B ≤ b ∧ b < w.heap.size ∧ some b ≠ v.ownBlock) acc xs
theorem OR.nil (w : World) (B : Nat) : OR w B (.slice none 0 0) [] := ⟨[], Own.nil _ _ _ _, RLs.nil⟩
theorem OR.form {w : World} {B : Nat} {v : Value} {acc : List Rep} (h : OR w B v acc) : ∃ A c, v = .slice A acc.length c := by
  obtain ⟨xs, h1, h2⟩ := h; exact h1.sliceForm
theorem OR.lt {w : World} {B : Nat} {v : Value} {acc : List Rep} (h : OR w B v acc) : ∀ k, v.ownBlock = some k → B ≤ k ∧ k < w.heap.size := by
  obtain ⟨xs, h1, h2⟩ := h; exact h1.lt
theorem OR.far {w : World} {B : Nat} {v : Value} {acc : List Rep} (h : OR w B v acc) {g : Nat} (hg : g < B) (i : Nat) (u : Value) : OR (w.setCell ⟨g, i, none⟩ u) B v acc := by
  obtain ⟨xs, h1, h2⟩ := h
  exact ⟨xs, h1.far (fun e => by have := (h1.lt _ e).1; simp at this; omega) u, h2.far hg i u⟩
theorem OR.put4 {w : World} {B : Nat} {v : Value} {acc : List Rep} (h : OR w B v acc) {g : Nat} (hg : g < B) (a b c d : Value) : OR (put4 w g a b c d) B v acc :=
  (((h.far hg 0 a).far hg 1 b).far hg 2 c).far hg 3 d
theorem OR.below {w w' : World} {B : Nat} {v : Value} {acc : List Rep} (h : OR w B v acc) (hb : Below w.heap.size w w') : OR w' B v acc := by
  obtain ⟨xs, h1, h2⟩ := h
  exact ⟨xs, h1.below_ hb, RLs.mono (fun b hb' => ⟨hb'.1, Nat.lt_of_lt_of_le hb'.2.1 hb.size, hb'.2.2⟩) (RLs.keep (fun p hp => hb.cell hp.2.1) h2)⟩
theorem OR.drew {w : World} {B : Nat} {v : Value} {acc : List Rep} (h : OR w B v acc) : OR w.drew B v acc := h.below (Below.refl _ _).drew
theorem OR.alloc {w : World} {B : Nat} {v : Value} {acc : List Rep} (h : OR w B v acc) (o : Obj) : OR (w.alloc o) B v acc := h.below ((Below.refl _ _).alloc (Nat.le_refl _) o)
theorem OR.mono {w : World} {B B' : Nat} {v : Value} {acc : List Rep} (h : OR w B v acc) (hB : B' ≤ B) : OR w B' v acc := by
  obtain ⟨xs, h1, h2⟩ := h
  exact ⟨xs, h1.mono hB, RLs.mono (fun b hb => ⟨Nat.le_trans hB hb.1, hb.2⟩) h2⟩
theorem OR.rv {w : World} {B : Nat} {k n : Int} {s : List UInt8} {A : Option Addr} {c i : Nat} {acc : List Rep} {S : Nat → Prop} (h : OR w B (.slice A i c) acc) (hk : fits k) (hn : fits n) (hs : s.length ≤ maxLen) (hi : i = acc.length)
    (hS : ∀ b, B ≤ b → b < w.heap.size → S b) : RV w S (.mk k s n acc) [.int .i64 k, sv s, .int .i64 n, .slice A acc.length c] := by
  subst hi
  obtain ⟨xs, h1, h2⟩ := h
  have hf := Own.caps h1
  exact RV.mk_ hk hn hs (by omega) hf.2 (xs := xs) (RD.of_own h1 (fun kk hkk => hS _ (h1.lt kk hkk).1 (h1.lt kk hkk).2)) (RLs.mono (fun b hb => hS _ hb.1 hb.2.1) h2)
/-- A slice of one's own as what is read. -/
theorem OR.rls {w : World} {B : Nat} {v : Value} {acc : List Rep} (h : OR w B v acc) : ∃ xs, Own w B 27 4 v acc.length xs ∧ RLs w (fun b => B ≤ b ∧ b < w.heap.size) acc xs := by
  obtain ⟨xs, h1, h2⟩ := h
  exact ⟨xs, h1, RLs.mono (fun b hb => ⟨hb.1, hb.2.1⟩) h2⟩

theorem flats_take_succ (l : List Rep) (i : Nat) {r : Rep} (h : l[i]? = some r) : (Rep.flats l).take (i + 1) = (Rep.flats l).take i ++ [r.flat] := by
  obtain ⟨hi, hr⟩ := List.getElem?_eq_some_iff.1 h
  rw [flats_map, List.take_succ_eq_append_getElem (by simpa using hi), List.getElem_map, hr]
/-- A reply, new, is given back. -/
def FRet (w w' : World) (e : Ending) (r : Rep) : Prop := ∃ E f, e = .returned (.agg #[.int .i64 r.k, sv r.s, .int .i64 r.n, .slice E r.l.length f]) ∧ RV w' (New w w') r [.int .i64 r.k, sv r.s, .int .i64 r.n, .slice E r.l.length f]
/-- What Flat asks and gives. -/
def FlatAt (r : Rep) : Prop := ∀ (d : Nat) (w : World) (cs : List Value), okM d r → Liv w r cs → My w →
  Calls Tryd.prog 16 #[.agg cs.toArray] w fun e w' => FRet w w' e r.flat ∧ Below w.heap.size w w'
end Go.Proofs.YtjdnpgdedbegfaaDoor
