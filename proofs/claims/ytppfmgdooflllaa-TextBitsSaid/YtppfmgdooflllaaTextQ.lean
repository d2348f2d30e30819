/- Plain: a bit that is set and set back. No program in sight. -/
import Derived.Test.YtppfmgdooflllaaTextP
namespace Go.Proofs.Ytppfmgdooflllaa.Tx
set_option linter.unusedVariables false

theorem put_self_all : ∀ c : Fin 256, ∀ d : Fin 8, ∀ v : Fin 2, bitOf (put c.val d.val v.val) d.val = v.val ∧ popN 8 (put c.val d.val v.val) + bitOf c.val d.val = popN 8 c.val + v.val ∧ put (put c.val d.val v.val) d.val (bitOf c.val d.val) = c.val ∧ put c.val d.val v.val < 256 ∧ bitOf c.val d.val < 2 := by decide +kernel
theorem put_other_all : ∀ d : Fin 8, ∀ e : Fin 8, d ≠ e → ∀ c : Fin 256, ∀ v : Fin 2, bitOf (put c.val d.val v.val) e.val = bitOf c.val e.val := by decide +kernel
theorem put_facts (c d v : Nat) (hc : c < 256) (hd : d < 8) (hv : v ≤ 1) : bitOf (put c d v) d = v ∧ popN 8 (put c d v) + bitOf c d = popN 8 c + v ∧ put (put c d v) d (bitOf c d) = c ∧ put c d v < 256 ∧ bitOf c d < 2 :=
  put_self_all ⟨c, hc⟩ ⟨d, hd⟩ ⟨v, by omega⟩
theorem put_other (c d e v : Nat) (hc : c < 256) (hd : d < 8) (he : e < 8) (hne : d ≠ e) (hv : v ≤ 1) : bitOf (put c d v) e = bitOf c e :=
  put_other_all ⟨d, hd⟩ ⟨e, he⟩ (by intro h; exact hne (by simpa using h)) ⟨c, hc⟩ ⟨v, by omega⟩

/-- The byte of a place, and the bit within it. -/
def byteAt (l : List UInt8) (q : Nat) : Nat := (l[q]?.getD 0).toNat
theorem bit_nat (l : List UInt8) (k : Nat) : bit l (k : Int) = bitOf (byteAt l (k / 8)) (7 - k % 8) := by
  have h1 : ((k : Int) / 8).toNat = k / 8 := by omega
  have h2 : (7 - (k : Int) % 8).toNat = 7 - k % 8 := by omega
  unfold bit byteAt
  by_cases h : (l.length : Int) ≤ (k : Int) / 8
  · rw [if_pos (.inr h), List.getElem?_eq_none (by omega)]
    unfold bitOf
    simp
  · rw [if_neg (by omega), h1, h2]
theorem byteAt_lt (l : List UInt8) (q : Nat) : byteAt l q < 256 := UInt8.toNat_lt _
theorem byteAt_grown (l : List UInt8) (n q : Nat) : byteAt (grown l n) q = byteAt l q := by
  unfold byteAt grown
  by_cases h : q < l.length
  · rw [List.getElem?_append_left h]
  · rw [List.getElem?_append_right (by omega), List.getElem?_eq_none (show l.length ≤ q by omega), List.getElem?_replicate]
    split <;> rfl
theorem byteAt_set (l : List UInt8) (q r : Nat) (x : Nat) (hx : x < 256) (hq : q < l.length) : byteAt (l.set q (UInt8.ofNat x)) r = if q = r then x else byteAt l r := by
  unfold byteAt
  rw [List.getElem?_set]
  by_cases h : q = r
  · subst h
    rw [if_pos rfl, if_pos hq, if_pos rfl]
    simp only [Option.getD_some]
    rw [UInt8.toNat_ofNat', Nat.mod_eq_of_lt hx]
  · rw [if_neg h, if_neg h]
theorem pops_zeros (n : Nat) : pops (List.replicate n 0) = 0 := by
  induction n with
  | zero => rfl
  | succ n ih => rw [List.replicate_succ, pops_cons, ih]; rfl
theorem pops_grown (l : List UInt8) (n : Nat) : pops (grown l n) = pops l := by unfold grown; rw [pops_append, pops_zeros]; omega
theorem pops_set (l : List UInt8) (q : Nat) (x : Nat) (hx : x < 256) (hq : q < l.length) : pops (l.set q (UInt8.ofNat x)) + popN 8 (byteAt l q) = pops l + popN 8 x := by
  have h1 : l = l.take q ++ l[q] :: l.drop (q + 1) := by rw [← List.drop_eq_getElem_cons hq, List.take_append_drop]
  have h2 : l.set q (UInt8.ofNat x) = l.take q ++ UInt8.ofNat x :: l.drop (q + 1) := List.set_eq_take_append_cons_drop.trans (by rw [if_pos hq])
  have h3 : byteAt l q = l[q].toNat := by unfold byteAt; rw [List.getElem?_eq_getElem hq]; rfl
  have h4 : pop (UInt8.ofNat x) = popN 8 x := by unfold pop; rw [UInt8.toNat_ofNat', Nat.mod_eq_of_lt hx]
  have h5 : pops l = pops (l.take q) + (pop l[q] + pops (l.drop (q + 1))) := by
    conv => lhs; rw [h1]
    rw [pops_append, pops_cons]
  rw [h2, pops_append, pops_cons, h3, h4, h5]
  have : pop l[q] = popN 8 l[q].toNat := rfl
  omega

/-- A bit that is set: the text and what was there. -/
def G (l : List UInt8) (k : Nat) : List UInt8 := grown l (k / 8 + 1)
def put1 (l : List UInt8) (k v : Nat) : List UInt8 := (G l k).set (k / 8) (UInt8.ofNat (put (byteAt l (k / 8)) (7 - k % 8) v))
theorem G_length (l : List UInt8) (k : Nat) : k / 8 < (G l k).length ∧ l.length ≤ (G l k).length := by unfold G; rw [grown_length]; omega
theorem setBit_nat (l : List UInt8) (k v : Nat) (hk : k < 524288) (hv : v ≤ 1) : setBit l (k : Int) (v : Int) = (put1 l k v, ((bit l (k : Int) : Nat) : Int), 0) := by
  have hq := (G_length l k).1
  unfold setBit
  rw [if_neg (by omega), show ((k : Int) / 8 + 1).toNat = k / 8 + 1 from by omega, show ((k : Int) / 8).toNat = k / 8 from by omega, show (7 - (k : Int) % 8).toNat = 7 - k % 8 from by omega, Int.toNat_natCast]
  unfold put1
  have := byteAt_grown l (k / 8 + 1) (k / 8)
  unfold byteAt at this ⊢
  rw [this]
  rfl
theorem put1_length (l : List UInt8) (k v : Nat) : (put1 l k v).length = (G l k).length := by unfold put1; rw [List.length_set]
theorem byteAt_put1 (l : List UInt8) (k v r : Nat) (hv : v ≤ 1) : byteAt (put1 l k v) r = if k / 8 = r then put (byteAt l (k / 8)) (7 - k % 8) v else byteAt l r := by
  unfold put1
  rw [byteAt_set _ _ _ _ (put_facts _ _ _ (byteAt_lt _ _) (by omega) hv).2.2.2.1 (G_length l k).1]
  unfold G
  rw [byteAt_grown]
theorem bit_put1 (l : List UInt8) (k v : Nat) (hv : v ≤ 1) : bit (put1 l k v) (k : Int) = v := by
  rw [bit_nat, byteAt_put1 l k v _ hv, if_pos rfl]
  exact (put_facts _ _ _ (byteAt_lt _ _) (by omega) hv).1
theorem bit_put1_other (l : List UInt8) (k v m : Nat) (hv : v ≤ 1) (hne : m ≠ k) : bit (put1 l k v) (m : Int) = bit l (m : Int) := by
  rw [bit_nat, bit_nat, byteAt_put1 l k v _ hv]
  by_cases h : k / 8 = m / 8
  · rw [if_pos h, put_other _ _ _ _ (byteAt_lt _ _) (by omega) (by omega) (by omega) hv, h]
  · rw [if_neg h]
theorem put1_back (l : List UInt8) (k v : Nat) (hv : v ≤ 1) : put1 (put1 l k v) k (bit l (k : Int)) = G l k := by
  have hq := (G_length l k).1
  have hg : G (put1 l k v) k = put1 l k v := by
    conv => lhs; unfold G
    unfold grown
    rw [put1_length, show k / 8 + 1 - (G l k).length = 0 from by omega]
    simp
  rw [show put1 (put1 l k v) k (bit l (k : Int)) = (G (put1 l k v) k).set (k / 8) (UInt8.ofNat (put (byteAt (put1 l k v) (k / 8)) (7 - k % 8) (bit l (k : Int)))) from rfl]
  rw [hg, byteAt_put1 l k v _ hv, if_pos rfl, bit_nat, (put_facts _ _ _ (byteAt_lt _ _) (by omega) hv).2.2.1]
  unfold put1
  rw [List.set_set]
  apply List.ext_getElem?
  intro i
  rw [List.getElem?_set]
  by_cases h : k / 8 = i
  · subst h
    rw [if_pos rfl, if_pos hq, List.getElem?_eq_getElem hq]
    congr 1
    have := byteAt_grown l (k / 8 + 1) (k / 8)
    rw [← this]
    unfold byteAt
    rw [show grown l (k / 8 + 1) = G l k from rfl, List.getElem?_eq_getElem hq]
    simp
  · rw [if_neg h]
theorem bit_le (l : List UInt8) (k : Nat) : bit l (k : Int) ≤ 1 := by
  rw [bit_nat]
  have := (put_facts (byteAt l (k / 8)) (7 - k % 8) 0 (byteAt_lt _ _) (by omega) (by omega)).2.2.2.2
  omega
theorem take_G (l : List UInt8) (k : Nat) : (G l k).take l.length = l := by unfold G grown; rw [List.take_left]
theorem pops_put1 (l : List UInt8) (k v : Nat) (hv : v ≤ 1) : pops (put1 l k v) + bit l (k : Int) = pops l + v := by
  have h1 := pops_set (G l k) (k / 8) (put (byteAt l (k / 8)) (7 - k % 8) v) (put_facts _ _ _ (byteAt_lt _ _) (by omega) hv).2.2.2.1 (G_length l k).1
  have h2 := (put_facts (byteAt l (k / 8)) (7 - k % 8) v (byteAt_lt _ _) (by omega) hv).2.1
  have h3 : byteAt (G l k) (k / 8) = byteAt l (k / 8) := byteAt_grown l _ _
  have h4 : pops (G l k) = pops l := pops_grown l _
  have h5 := bit_nat l k
  have h6 : put1 l k v = (G l k).set (k / 8) (UInt8.ofNat (put (byteAt l (k / 8)) (7 - k % 8) v)) := rfl
  rw [h6, h5]
  rw [h3, h4] at h1
  omega
end Go.Proofs.Ytppfmgdooflllaa.Tx
