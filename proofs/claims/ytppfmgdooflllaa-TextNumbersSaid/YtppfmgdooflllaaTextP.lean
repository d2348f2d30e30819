/- Plain: spans, bits and sums of texts, as lists of bytes. No program in sight. -/
import Derived.Test.YtppfmgdooflllaaNumP
namespace Go.Proofs.Ytppfmgdooflllaa.Tx
set_option linter.unusedVariables false

def s1 (a n : Int) : Int := if a < 0 then max (a + n) 0 else a
def s2 (b n : Int) : Int := min (if b < 0 then b + n else b) (n - 1)
def lo (a b n : Int) : Int := if s1 a n > s2 b n then 0 else s1 a n
def hi (a b n : Int) : Int := if s1 a n > s2 b n then 0 else s2 b n + 1
theorem span_bd (a b : Int) (n : Nat) : 0 ≤ lo a b n ∧ lo a b n ≤ hi a b n ∧ hi a b n ≤ n := by
  unfold lo hi s1 s2
  split <;> split <;> split <;> omega
/-- The bytes of a span. -/
def range (l : List UInt8) (a b : Int) : List UInt8 := (l.drop (lo a b l.length).toNat).take ((hi a b l.length).toNat - (lo a b l.length).toNat)
/-- The bits of a byte. -/
def popN : Nat → Nat → Nat
  | 0, _ => 0
  | f + 1, c => c % 2 + popN f (c / 2)
def pop (c : UInt8) : Nat := popN 8 c.toNat
theorem popN_le : ∀ (f c : Nat), popN f c ≤ f
  | 0, c => Nat.le_refl _
  | f + 1, c => by
    unfold popN
    have := popN_le f (c / 2)
    omega
theorem pop_le (c : UInt8) : pop c ≤ 8 := popN_le 8 _
def pops (l : List UInt8) : Nat := (l.map pop).sum
theorem pops_nil : pops [] = 0 := rfl
theorem pops_cons (c : UInt8) (l : List UInt8) : pops (c :: l) = pop c + pops l := by simp [pops]
theorem pops_append (a b : List UInt8) : pops (a ++ b) = pops a + pops b := by simp [pops]
theorem pops_le : ∀ l : List UInt8, pops l ≤ 8 * l.length
  | [] => by simp [pops]
  | c :: l => by rw [pops_cons, List.length_cons]; have := pop_le c; have := pops_le l; omega
theorem pops_take (l : List UInt8) (k : Nat) (h : k < l.length) : pops (l.take (k + 1)) = pops (l.take k) + pop l[k] := by
  rw [List.take_succ_eq_append_getElem h, pops_append, pops_cons, pops_nil]; omega
def count (l : List UInt8) (a b : Int) : Nat := pops (range l a b)
theorem range_length (l : List UInt8) (a b : Int) : (range l a b).length ≤ l.length := by
  unfold range; rw [List.length_take, List.length_drop]; omega
/-- With zero bytes up to a length. -/
def grown (l : List UInt8) (n : Nat) : List UInt8 := l ++ List.replicate (n - l.length) 0
theorem grown_length (l : List UInt8) (n : Nat) : (grown l n).length = max l.length n := by simp [grown]; omega
theorem grown_done {l l' : List UInt8} {n : Nat} (h : grown l' n = grown l n) (hn : n ≤ l'.length) : l' = grown l n := by
  rw [← h]; unfold grown; rw [show n - l'.length = 0 from by omega]; simp
theorem grown_step {l l' : List UInt8} {n : Nat} (h : grown l' n = grown l n) (hn : l'.length < n) : grown (l' ++ [0]) n = grown l n := by
  rw [← h]; unfold grown
  rw [List.append_assoc]
  congr 1
  rw [List.length_append, List.length_singleton, show n - l'.length = (n - (l'.length + 1)) + 1 from by omega, List.replicate_succ]
  rfl
/-- Bytes laid into a text, and the code. -/
def laid (l : List UInt8) (at' : Nat) (t : List UInt8) : List UInt8 := (grown l (at' + t.length)).take at' ++ t ++ (grown l (at' + t.length)).drop (at' + t.length)
def setRange (l : List UInt8) (i : Int) (t : List UInt8) : List UInt8 × Int :=
  if i < 0 then ([], 25) else if t.length = 0 then (l, 0) else if 65536 < i + t.length then ([], 11) else (laid l i.toNat t, 0)
/-- Bit at (0: the lowest) of a byte. -/
def bitOf (c : Nat) (k : Nat) : Nat := c / 2 ^ k % 2
def bit (l : List UInt8) (i : Int) : Nat :=
  if i < 0 ∨ (l.length : Int) ≤ i / 8 then 0 else bitOf ((l[(i / 8).toNat]?.getD 0).toNat) (7 - i % 8).toNat
/-- A byte with bit k set to b. -/
def put (c k b : Nat) : Nat := c - bitOf c k * 2 ^ k + b * 2 ^ k
def setBit (l : List UInt8) (i b : Int) : List UInt8 × Int × Int :=
  if i < 0 ∨ 524288 ≤ i ∨ b < 0 ∨ 1 < b then ([], 0, 10)
  else ((grown l (i / 8 + 1).toNat).set (i / 8).toNat (UInt8.ofNat (put ((grown l (i / 8 + 1).toNat)[(i / 8).toNat]?.getD 0).toNat (7 - i % 8).toNat b.toNat)), bit l i, 0)
/-- A number's text with another number added: the text, the number, the code. -/
def incr (l : List UInt8) (d : Int) : List UInt8 × Int × Int :=
  if (Num.prs l).isNone ∧ l ≠ [] then ([], 0, 5)
  else match Num.add ((Num.prs l).getD 0) d with
    | none => ([], 0, 6)
    | some n => (Num.fmt n, n, 0)
def append (s t : List UInt8) : List UInt8 × Int := if 65536 < s.length + t.length then ([], 11) else (s ++ t, 0)
end Go.Proofs.Ytppfmgdooflllaa.Tx
