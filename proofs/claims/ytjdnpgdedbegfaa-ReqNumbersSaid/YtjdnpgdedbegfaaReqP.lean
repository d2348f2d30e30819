/- Plain: requests as lists of bytes: read, cut, made. No program in sight. -/
import Derived.Test.YtjdnpgdedbegfaaNumP
namespace Go.Proofs.Ytjdnpgdedbegfaa.Rq
set_option linter.unusedVariables false

abbrev B := List UInt8

/-! ### Lines and bulks -/
/-- The place of the first 13 10. -/
def crlf : B → Option Nat
  | [] => none
  | c :: t => if c = 13 ∧ t.head? = some 10 then some 0 else (crlf t).map (· + 1)
/-- The place of the first c. -/
def idx (c : UInt8) : B → Option Nat
  | [] => none
  | d :: t => if d = c then some 0 else (idx c t).map (· + 1)

/-- What reading gives: wrong; not whole; a thing, and what follows it. -/
abbrev Res (α : Type) := Option (Option (α × B))

def number (least most : Int) (l : B) : Res Int :=
  match crlf l with
  | none => if 32 < l.length then none else some none
  | some n => if 32 < n then none else
    match Num.prs (l.take n) with
    | none => none
    | some x => if x < least ∨ most < x then none else some (some (x, l.drop (n + 2)))

def bulk (l : B) : Res B :=
  match l with
  | [] => some none
  | c :: t => if c ≠ 36 then none else
    match number 0 65536 t with
    | none => none
    | some none => some none
    | some (some (x, r)) => if r.length < x.toNat + 2 then some none else if (r.drop x.toNat).take 2 = [13, 10] then some (some (r.take x.toNat, r.drop (x.toNat + 2))) else none

def bulks : Nat → B → Res (List B)
  | 0, l => some (some ([], l))
  | n + 1, l =>
    match bulk l with
    | none => none
    | some none => some none
    | some (some (s, r)) =>
      match bulks n r with
      | none => none
      | some none => some none
      | some (some (ss, r')) => some (some (s :: ss, r'))

def arr (l : B) : Res (List B) :=
  match number (-1) 256 l with
  | none => none
  | some none => some none
  | some (some (x, r)) => bulks x.toNat r

/-! ### Words -/
def blank (c : UInt8) : Bool := c == 32 || c == 9 || c == 0
def esc (q d : UInt8) : UInt8 := if q ≠ 34 then d else if d = 110 then 10 else if d = 114 then 13 else if d = 116 then 9 else d
/-- Behind a quote: the text, and what follows the closing one. -/
def quoted (q : UInt8) : B → Option (B × B)
  | [] => none
  | [c] => if c = q then some ([], []) else none
  | c :: d :: t => if c = q then some ([], d :: t) else if c = 92 ∧ (q = 34 ∨ d = q) then (quoted q t).map (fun p => (esc q d :: p.1, p.2)) else (quoted q (d :: t)).map (fun p => (c :: p.1, p.2))
def ends (l : B) : Bool := match l with | [] => true | c :: _ => blank c
/-- A word, and what follows it. -/
def word : B → Option (B × B)
  | [] => some ([], [])
  | c :: t => if blank c then some ([], c :: t) else if c ≠ 34 ∧ c ≠ 39 then (word t).map (fun p => (c :: p.1, p.2)) else
    match quoted c t with
    | none => none
    | some (p, r) => if ends r then some (p, r) else none
/-- All words of a line (fuel: its length). -/
def wordsN : Nat → B → Option (List B)
  | 0, _ => some []
  | f + 1, [] => some []
  | f + 1, c :: t => if blank c then wordsN f t else
    match word (c :: t) with
    | none => none
    | some (w, r) => (wordsN f r).map (w :: ·)
def words (l : B) : Option (List B) :=
  match wordsN l.length l with
  | none => none
  | some ws => if 256 < ws.length then none else some ws

def chop (l : B) : B := if l.getLast? = some 13 then l.dropLast else l
def inl (l : B) : Res (List B) :=
  match idx 10 l with
  | none => if 4096 < l.length then none else some none
  | some n => if 4096 < n then none else
    match words (chop (l.take n)) with
    | none => none
    | some ws => some (some (ws, l.drop (n + 1)))

def nxt (l : B) : Res (List B) :=
  match l with
  | [] => some none
  | c :: t => if c = 42 then arr t else inl (c :: t)

/-- All requests, what is left, is it wrong? (fuel: the length) -/
def allN : Nat → B → List (List B) × B × Bool
  | 0, l => ([], l, (nxt l).isNone)
  | f + 1, l =>
    match nxt l with
    | none => ([], l, true)
    | some none => ([], l, false)
    | some (some (ws, r)) => let p := allN f r; ((if ws = [] then p.1 else ws :: p.1), p.2)
def all (l : B) : List (List B) × B × Bool := allN l.length l

/-! ### Making -/
def mkBulk (s : B) : B := 36 :: (Num.fmt s.length ++ ([13, 10] ++ (s ++ [13, 10])))
def make (ss : List B) : B := 42 :: (Num.fmt ss.length ++ ([13, 10] ++ (ss.map mkBulk).flatten))
end Go.Proofs.Ytjdnpgdedbegfaa.Rq
