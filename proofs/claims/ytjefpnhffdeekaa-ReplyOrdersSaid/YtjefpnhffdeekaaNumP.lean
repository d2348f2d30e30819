/- Plain: numbers of 64 bits as texts of digits, both ways. No program in sight. -/
import Derived.KernelRfl
namespace Go.Proofs.Ytjefpnhffdeekaa.Num
set_option linter.unusedVariables false

/-- A digit. -/
def dg (d : Nat) : UInt8 := UInt8.ofNat (48 + d)
/-- A number's digits laid ahead of others. -/
def ugo : Nat → Nat → List UInt8 → List UInt8
  | 0, _, acc => acc
  | f + 1, n, acc => if n / 10 = 0 then dg (n % 10) :: acc else ugo f (n / 10) (dg (n % 10) :: acc)
def uns (n : Nat) : List UInt8 := ugo 20 n []
def fmt (n : Int) : List UInt8 := if n < 0 then 45 :: uns n.natAbs else uns n.toNat
def cgo : List UInt8 → Nat → Option Nat
  | [], n => some n
  | c :: t, n => if c.toNat < 48 ∨ 57 < c.toNat then none else if 18446744073709551616 ≤ n * 10 + (c.toNat - 48) then none else cgo t (n * 10 + (c.toNat - 48))
def cur (l : List UInt8) : Option Nat := if l.length < 1 ∨ 20 < l.length then none else cgo l 0
/-- A number of 64 bits without a sign, taken with one. -/
def sig (u : Nat) : Int := if u < 9223372036854775808 then (u : Int) else (u : Int) - 18446744073709551616
def ngt (n : Int) : Int := if n = -9223372036854775808 then n else -n
def below (l : List UInt8) : Bool := l.head? == some 45
def rest (l : List UInt8) : List UInt8 := if below l then l.tail else l
def val (l : List UInt8) (u : Nat) : Int := if below l then ngt (sig u) else sig u
def prs (l : List UInt8) : Option Int :=
  match cur (rest l) with
  | none => none
  | some u => if fmt (val l u) = l then some (val l u) else none

def add (a b : Int) : Option Int := if -9223372036854775808 ≤ a + b ∧ a + b ≤ 9223372036854775807 then some (a + b) else none
def neg (a : Int) : Option Int := if a = -9223372036854775808 then none else some (-a)

/-! ### Digits, written and read -/
theorem dg_toNat {d : Nat} (h : d < 10) : (dg d).toNat = 48 + d := by
  unfold dg
  rw [UInt8.toNat_ofNat']
  omega

theorem dg_int (m : Nat) : ((dg (m % 10)).toNat : Int) = 48 + (m : Int) % 10 := by rw [dg_toNat (by omega)]; omega
theorem ugo_last {f m : Nat} {acc r : List UInt8} (h : ugo (f + 1) m acc = r) (h0 : m / 10 = 0) : dg (m % 10) :: acc = r := by
  unfold ugo at h
  rw [if_pos h0] at h
  exact h
theorem ugo_next {f m : Nat} {acc r : List UInt8} (h : ugo (f + 1) m acc = r) (h0 : ¬ m / 10 = 0) : ugo f (m / 10) (dg (m % 10) :: acc) = r := by
  unfold ugo at h
  rw [if_neg h0] at h
  exact h

theorem ugo_round {f m : Nat} {acc r : List UInt8} (h : ugo (f + 1) m acc = r) (hm : m < 10 ^ (f + 1)) (h0 : ¬ m / 10 = 0) :
    ∃ f', f = f' + 1 ∧ ugo (f' + 1) (m / 10) (dg (m % 10) :: acc) = r ∧ m / 10 < 10 ^ (f' + 1) := by
  cases f with
  | zero => simp at hm; omega
  | succ f' => exact ⟨f', rfl, ugo_next h h0, by rw [Nat.pow_succ] at hm; omega⟩

theorem ugo_append : ∀ (f n : Nat) (acc : List UInt8), ugo f n acc = ugo f n [] ++ acc
  | 0, n, acc => by simp [ugo]
  | f + 1, n, acc => by
    unfold ugo
    by_cases h : n / 10 = 0
    · simp [h]
    · rw [if_neg h, if_neg h, ugo_append f (n / 10) (dg (n % 10) :: acc), ugo_append f (n / 10) [dg (n % 10)]]
      simp
theorem ugo_length : ∀ (f n : Nat), 0 < f → 1 ≤ (ugo f n []).length ∧ (ugo f n []).length ≤ f
  | 0, n, h => by omega
  | f + 1, n, _ => by
    unfold ugo
    by_cases h : n / 10 = 0
    · simp [h]
    · rw [if_neg h, ugo_append]
      rcases Nat.eq_zero_or_pos f with hf | hf
      · subst hf; simp [ugo]
      · have := ugo_length f (n / 10) hf
        simp; omega
theorem uns_length (n : Nat) : 1 ≤ (uns n).length ∧ (uns n).length ≤ 20 := ugo_length 20 n (by omega)
theorem fmt_length (n : Int) : 1 ≤ (fmt n).length ∧ (fmt n).length ≤ 21 := by
  unfold fmt
  split
  · have := uns_length n.natAbs; simp; omega
  · have := uns_length n.toNat; omega

/-- Every byte is a digit. -/
def Digs (l : List UInt8) : Prop := ∀ c ∈ l, 48 ≤ c.toNat ∧ c.toNat ≤ 57
theorem digs_ugo : ∀ (f n : Nat) (acc : List UInt8), Digs acc → Digs (ugo f n acc)
  | 0, n, acc, h => h
  | f + 1, n, acc, h => by
    have hd : Digs (dg (n % 10) :: acc) := by
      intro c hc
      rcases List.mem_cons.1 hc with rfl | hc
      · rw [dg_toNat (by omega)]; omega
      · exact h c hc
    unfold ugo
    split
    · exact hd
    · exact digs_ugo f (n / 10) _ hd
theorem digs_uns (n : Nat) : Digs (uns n) := digs_ugo 20 n [] (by intro c hc; cases hc)

/-- The number of a row of digits, no bound asked. -/
def num (l : List UInt8) (n : Nat) : Nat := l.foldl (fun n c => n * 10 + (c.toNat - 48)) n
theorem num_nil (n : Nat) : num [] n = n := rfl
theorem num_cons (c : UInt8) (l : List UInt8) (n : Nat) : num (c :: l) n = num l (n * 10 + (c.toNat - 48)) := by unfold num; rw [List.foldl_cons]
theorem num_append (a b : List UInt8) (n : Nat) : num (a ++ b) n = num b (num a n) := by simp [num]
theorem le_num : ∀ (l : List UInt8) (n : Nat), n ≤ num l n
  | [], n => Nat.le_refl _
  | c :: l, n => by
    rw [num_cons]
    exact Nat.le_trans (by omega) (le_num l _)
theorem num_step (n : Nat) : n / 10 * 10 + ((dg (n % 10)).toNat - 48) = n := by rw [dg_toNat (by omega)]; omega
theorem num_ugo (f : Nat) : ∀ n : Nat, n < 10 ^ (f + 1) → num (ugo (f + 1) n []) 0 = n := by
  induction f with
  | zero =>
    intro n hn
    have hd := num_step n
    have h : n / 10 = 0 := by omega
    unfold ugo
    rw [if_pos h, num_cons, num_nil]
    rw [h] at hd
    exact hd
  | succ f ih =>
    intro n hn
    have hd := num_step n
    rw [ugo]
    by_cases h : n / 10 = 0
    · rw [if_pos h, num_cons, num_nil]
      rw [h] at hd
      exact hd
    · rw [if_neg h, ugo_append, num_append, ih (n / 10) (by rw [Nat.pow_succ] at hn; omega), num_cons, num_nil]
      exact hd
theorem ten20 : (18446744073709551616 : Nat) < 10 ^ (19 + 1) := by decide
theorem num_uns (n : Nat) (h : n < 18446744073709551616) : num (uns n) 0 = n := num_ugo 19 n (Nat.lt_trans h ten20)
/-- cgo: the number if it fits. -/
theorem cgo_digs : ∀ (l : List UInt8) (n : Nat), Digs l → num l n < 18446744073709551616 → cgo l n = some (num l n)
  | [], n, _, _ => rfl
  | c :: l, n, hd, hn => by
    have hc := hd c (by simp)
    rw [num_cons] at hn ⊢
    have := le_num l (n * 10 + (c.toNat - 48))
    unfold cgo
    rw [if_neg (by omega), if_neg (by omega)]
    exact cgo_digs l _ (fun x hx => hd x (by simp [hx])) hn
theorem cgo_some : ∀ (l : List UInt8) (n u : Nat), n < 18446744073709551616 → cgo l n = some u → Digs l ∧ u = num l n ∧ u < 18446744073709551616
  | [], n, u, hn, h => by
    simp [cgo] at h
    subst h
    exact ⟨(by intro c hc; cases hc), rfl, hn⟩
  | c :: l, n, u, hn, h => by
    unfold cgo at h
    split at h
    · cases h
    · rename_i hc
      split at h
      · cases h
      · rename_i hb
        obtain ⟨h1, h2, h3⟩ := cgo_some l _ u (by omega) h
        refine ⟨?_, h2, h3⟩
        intro x hx
        rcases List.mem_cons.1 hx with rfl | hx
        · omega
        · exact h1 x hx
theorem cur_uns (u : Nat) (h : u < 18446744073709551616) : cur (uns u) = some u := by
  have hl := uns_length u
  unfold cur
  rw [if_neg (by omega), cgo_digs _ _ (digs_uns u) (by rw [num_uns u h]; exact h), num_uns u h]
theorem cur_some {l : List UInt8} {u : Nat} (h : cur l = some u) : Digs l ∧ u = num l 0 ∧ u < 18446744073709551616 ∧ 1 ≤ l.length ∧ l.length ≤ 20 := by
  unfold cur at h
  split at h
  · cases h
  · obtain ⟨a, b, c⟩ := cgo_some l 0 u (by omega) h
    exact ⟨a, b, c, by omega, by omega⟩
theorem cur_lt {l : List UInt8} {u : Nat} (h : cur l = some u) : u < 18446744073709551616 := (cur_some h).2.2.1

theorem cur_none_short {l : List UInt8} (h : l.length < 1) : cur l = none := by unfold cur; rw [if_pos (.inl h)]
theorem cur_none_long {l : List UInt8} (h : 20 < l.length) : cur l = none := by unfold cur; rw [if_pos (.inr h)]
theorem cur_mid {l : List UInt8} (h : ¬ l.length < 1) (h2 : ¬ 20 < l.length) : cur l = cgo l 0 := by unfold cur; rw [if_neg (by omega)]
theorem cgo_bad {c : UInt8} {l : List UInt8} {n : Nat} {r : Option Nat} (h : cgo (c :: l) n = r) (hc : c.toNat < 48 ∨ 57 < c.toNat) : r = none := by
  unfold cgo at h; rw [if_pos hc] at h; exact h.symm
theorem cgo_over {c : UInt8} {l : List UInt8} {n : Nat} {r : Option Nat} (h : cgo (c :: l) n = r) (hc : ¬ (c.toNat < 48 ∨ 57 < c.toNat)) (ho : 18446744073709551616 ≤ n * 10 + (c.toNat - 48)) : r = none := by
  unfold cgo at h; rw [if_neg hc, if_pos ho] at h; exact h.symm
theorem cgo_next {c : UInt8} {l : List UInt8} {n : Nat} {r : Option Nat} (h : cgo (c :: l) n = r) (hc : ¬ (c.toNat < 48 ∨ 57 < c.toNat)) (ho : ¬ 18446744073709551616 ≤ n * 10 + (c.toNat - 48)) : cgo l (n * 10 + (c.toNat - 48)) = r := by
  unfold cgo at h; rw [if_neg hc, if_neg ho] at h; exact h
theorem drop_cons_str (s : ByteArray) (k : Nat) (h : k < s.size) : s.data.toList.drop k = s[k] :: s.data.toList.drop (k + 1) := by
  rw [List.drop_eq_getElem_cons (by simpa using h)]; rfl

theorem below_str (s : ByteArray) (h : 0 < s.size) : below s.data.toList = decide ((s[0].toNat : Int) = 45) := by
  have hd := drop_cons_str s 0 h
  rw [List.drop_zero] at hd
  rw [hd]
  unfold below
  rw [List.head?_cons]
  rw [Bool.eq_iff_iff, beq_iff_eq, decide_eq_true_iff, Option.some.injEq, ← UInt8.toNat_inj]
  simp
  omega
theorem below_nil (s : ByteArray) (h : ¬ 0 < s.size) : below s.data.toList = false := by
  have : s.data.toList = [] := List.eq_nil_of_length_eq_zero (by rw [Array.length_toList]; show s.size = 0; omega)
  rw [this]; rfl
theorem rest_str (s : ByteArray) (h : below s.data.toList = true) : rest s.data.toList = (s.extract 1 s.size).data.toList := by
  unfold rest
  rw [if_pos h]
  have hsz : s.data.toList.length = s.size := by rw [Array.length_toList]; rfl
  rw [ByteArray.data_extract, Array.toList_extract, List.extract_eq_take_drop, List.take_of_length_le (by rw [List.length_drop, hsz]; omega), List.drop_one]
theorem rest_all (s : ByteArray) (h : below s.data.toList = false) : rest s.data.toList = s.data.toList := by
  unfold rest; rw [if_neg (by rw [h]; decide)]
theorem prs_none {l : List UInt8} (h : cur (rest l) = none) : prs l = none := by unfold prs; rw [h]
theorem prs_hit {l : List UInt8} {u : Nat} (h : cur (rest l) = some u) (hf : (fmt (val l u) == l) = true) : prs l = some (val l u) := by
  unfold prs; rw [h]; simp only; rw [if_pos (beq_iff_eq.1 hf)]
theorem prs_miss {l : List UInt8} {u : Nat} (h : cur (rest l) = some u) (hf : (fmt (val l u) == l) = false) : prs l = none := by
  unfold prs; rw [h]; simp only; rw [if_neg (beq_eq_false_iff_ne.1 hf)]
theorem val_t {l : List UInt8} (u : Nat) (h : below l = true) : val l u = ngt (sig u) := by unfold val; rw [if_pos h]
theorem val_f {l : List UInt8} (u : Nat) (h : below l = false) : val l u = sig u := by unfold val; rw [if_neg (by rw [h]; decide)]

theorem head_digs {l : List UInt8} (hd : Digs l) (hl : 1 ≤ l.length) : below l = false := by
  cases l with
  | nil => simp at hl
  | cons c t =>
    have := hd c (by simp)
    unfold below
    simp only [List.head?_cons, beq_eq_false_iff_ne, ne_eq, Option.some.injEq]
    rintro rfl
    simp at this
theorem below_fmt (a : Int) : below (fmt a) = decide (a < 0) := by
  unfold fmt
  by_cases h : a < 0
  · rw [if_pos h]; simp [h, below]
  · rw [if_neg h]
    have := head_digs (digs_uns a.toNat) (uns_length _).1
    simp [this, h]
theorem rest_fmt (a : Int) : rest (fmt a) = uns a.natAbs := by
  unfold rest
  rw [below_fmt]
  by_cases h : a < 0
  · simp [h, fmt]
  · simp only [h, decide_false]
    unfold fmt
    rw [if_neg h]
    have : a.toNat = a.natAbs := by omega
    simp [this]
theorem val_fmt (a : Int) (h1 : -9223372036854775808 ≤ a) (h2 : a ≤ 9223372036854775807) : val (fmt a) a.natAbs = a := by
  unfold val
  rw [below_fmt]
  unfold sig ngt
  by_cases h : a < 0
  · simp only [h, decide_true, if_true]
    split <;> split <;> omega
  · have hf : decide (a < 0) = false := by simp [h]
    rw [hf]
    show (if a.natAbs < 9223372036854775808 then (a.natAbs : Int) else (a.natAbs : Int) - 18446744073709551616) = a
    rw [if_pos (by omega)]
    omega
/-- What is written is read again. -/
theorem prs_fmt (a : Int) (h1 : -9223372036854775808 ≤ a) (h2 : a ≤ 9223372036854775807) : prs (fmt a) = some a := by
  unfold prs
  rw [rest_fmt, cur_uns _ (by omega)]
  simp only
  rw [val_fmt a h1 h2, if_pos rfl]
/-- What is read is written so. -/
theorem fmt_of_prs {l : List UInt8} {n : Int} (h : prs l = some n) : fmt n = l := by
  unfold prs at h
  split at h
  · cases h
  · split at h
    · rename_i h'
      injection h with h
      subst h
      exact h'
    · cases h
theorem sig_bd (u : Nat) (h : u < 18446744073709551616) : -9223372036854775808 ≤ sig u ∧ sig u ≤ 9223372036854775807 := by unfold sig; split <;> omega
theorem ngt_bd (n : Int) (h : -9223372036854775808 ≤ n ∧ n ≤ 9223372036854775807) : -9223372036854775808 ≤ ngt n ∧ ngt n ≤ 9223372036854775807 := by unfold ngt; split <;> omega
theorem val_bd (l : List UInt8) (u : Nat) (h : u < 18446744073709551616) : -9223372036854775808 ≤ val l u ∧ val l u ≤ 9223372036854775807 := by
  unfold val
  split
  · exact ngt_bd _ (sig_bd u h)
  · exact sig_bd u h
theorem prs_bd {l : List UInt8} {n : Int} (h : prs l = some n) : -9223372036854775808 ≤ n ∧ n ≤ 9223372036854775807 := by
  unfold prs at h
  split at h
  · cases h
  · rename_i u hu
    split at h
    · injection h with h
      subst h
      exact val_bd l u (cur_lt hu)
    · cases h
theorem fmt_inj {a b : Int} (ha : -9223372036854775808 ≤ a ∧ a ≤ 9223372036854775807) (hb : -9223372036854775808 ≤ b ∧ b ≤ 9223372036854775807) (h : fmt a = fmt b) : a = b := by
  have h1 := prs_fmt a ha.1 ha.2
  rw [h, prs_fmt b hb.1 hb.2] at h1
  injection h1 with h1
  exact h1.symm
end Go.Proofs.Ytjefpnhffdeekaa.Num
