/- The walks of Next and All. -/
import Derived.Test.YtjdnpgdedbegfaaReqN
namespace Go.Proofs.Ytjdnpgdedbegfaa
open Go.RowKit Go.Shelf
set_option linter.unusedVariables false

/-- Bytes that came in, or were made: their slice. -/
def BSl (w : World) (B : Nat) (v : Value) (l : List UInt8) : Prop :=
  ∃ A c, v = .slice A l.length c ∧ Reads w B 1 A l.length (bv l) ∧ B ≤ w.heap.size ∧ l.length ≤ c ∧ c ≤ maxLen ∧ ∀ a, A = some a → a.spot = none
/-- What Next gives. -/
def NxRet (B : Nat) (w' : World) (e : Ending) (l : List UInt8) : Rq.Res (List (List UInt8)) → Prop
  | none => e = .returned (.tuple #[.slice none 0 0, .int .i64 0, .int .i64 16])
  | some none => e = .returned (.tuple #[.slice none 0 0, .int .i64 0, .int .i64 0])
  | some (some (ss, r)) => ∃ v, e = .returned (.tuple #[v, .int .i64 (l.length - r.length : Nat), .int .i64 0]) ∧ Own w' B 9 1 v ss.length (ss.map sv)
theorem array_none {g n c : Nat} {a : Addr} {l : List UInt8} {p : Nat} (w : World) (h : Rest w g n c a l p 0) (hp : p < n) (hm : Mx w) (hn : n ≤ 1048576) (hr : Rq.arr (l.drop (p + 1)) = none) :
    Calls Try.prog 29 #[.pointer (some ⟨g, 0, none⟩)] w fun e w' => ∃ v, e = .returned (.tuple #[v, .bool false]) ∧ (∃ p, Rest w' g n c a l p 16) ∧ w.grownBy w' (some g) :=
  (array_any w h hp hm hn).mono fun e w' ⟨he, hg⟩ => by rw [hr] at he; obtain ⟨⟨v, h1⟩, h2⟩ := he; exact ⟨v, h1, h2, hg⟩
theorem array_part {g n c : Nat} {a : Addr} {l : List UInt8} {p : Nat} (w : World) (h : Rest w g n c a l p 0) (hp : p < n) (hm : Mx w) (hn : n ≤ 1048576) (hr : Rq.arr (l.drop (p + 1)) = some none) :
    Calls Try.prog 29 #[.pointer (some ⟨g, 0, none⟩)] w fun e w' => ∃ v, e = .returned (.tuple #[v, .bool false]) ∧ (∃ p, Rest w' g n c a l p 0) ∧ w.grownBy w' (some g) :=
  (array_any w h hp hm hn).mono fun e w' ⟨he, hg⟩ => by rw [hr] at he; obtain ⟨⟨v, h1⟩, h2⟩ := he; exact ⟨v, h1, h2, hg⟩
theorem array_some {g n c : Nat} {a : Addr} {l : List UInt8} {p : Nat} (w : World) (h : Rest w g n c a l p 0) (hp : p < n) (hm : Mx w) (hn : n ≤ 1048576) {ss : List (List UInt8)} {r : List UInt8} (hr : Rq.arr (l.drop (p + 1)) = some (some (ss, r))) (q : Nat) (hq : n - r.length = q) :
    Calls Try.prog 29 #[.pointer (some ⟨g, 0, none⟩)] w fun e w' => ∃ v, e = .returned (.tuple #[v, .bool true]) ∧ Own w' w.heap.size 9 1 v ss.length (ss.map sv) ∧ Rest w' g n c a l q 0 ∧ w.grownBy w' (some g) :=
  (array_any w h hp hm hn).mono fun e w' ⟨he, hg⟩ => by rw [hr] at he; subst hq; obtain ⟨⟨v, h1, h3⟩, h2⟩ := he; exact ⟨v, h1, h3, h2, hg⟩
theorem inline_none {g n c : Nat} {a : Addr} {l : List UInt8} {p : Nat} (w : World) (h : Rest w g n c a l p 0) (hp : a = ⟨a.block, a.off, none⟩) (hn : n ≤ 1048576) (hr : Rq.inl (l.drop p) = none) :
    Calls Try.prog 28 #[.pointer (some ⟨g, 0, none⟩)] w fun e w' => ∃ v, e = .returned (.tuple #[v, .bool false]) ∧ (∃ p, Rest w' g n c a l p 16) ∧ w.grownBy w' (some g) :=
  (inline_any w h hp hn).mono fun e w' ⟨he, hg⟩ => by rw [hr] at he; obtain ⟨⟨v, h1⟩, h2⟩ := he; exact ⟨v, h1, h2, hg⟩
theorem inline_part {g n c : Nat} {a : Addr} {l : List UInt8} {p : Nat} (w : World) (h : Rest w g n c a l p 0) (hp : a = ⟨a.block, a.off, none⟩) (hn : n ≤ 1048576) (hr : Rq.inl (l.drop p) = some none) :
    Calls Try.prog 28 #[.pointer (some ⟨g, 0, none⟩)] w fun e w' => ∃ v, e = .returned (.tuple #[v, .bool false]) ∧ (∃ p, Rest w' g n c a l p 0) ∧ w.grownBy w' (some g) :=
  (inline_any w h hp hn).mono fun e w' ⟨he, hg⟩ => by rw [hr] at he; obtain ⟨⟨v, h1⟩, h2⟩ := he; exact ⟨v, h1, h2, hg⟩
theorem inline_some {g n c : Nat} {a : Addr} {l : List UInt8} {p : Nat} (w : World) (h : Rest w g n c a l p 0) (hp : a = ⟨a.block, a.off, none⟩) (hn : n ≤ 1048576) {ss : List (List UInt8)} {r : List UInt8} (hr : Rq.inl (l.drop p) = some (some (ss, r))) (q : Nat) (hq : n - r.length = q) :
    Calls Try.prog 28 #[.pointer (some ⟨g, 0, none⟩)] w fun e w' => ∃ v, e = .returned (.tuple #[v, .bool true]) ∧ Own w' w.heap.size 9 1 v ss.length (ss.map sv) ∧ Rest w' g n c a l q 0 ∧ w.grownBy w' (some g) :=
  (inline_any w h hp hn).mono fun e w' ⟨he, hg⟩ => by rw [hr] at he; subst hq; obtain ⟨⟨v, h1, h3⟩, h2⟩ := he; exact ⟨v, h1, h3, h2, hg⟩
theorem below_of_new {w w' : World} {o : Obj} (h : (w.alloc o).grownBy w' (some w.heap.size)) : Below w.heap.size w w' :=
  ⟨h.os, h.tape, h.output, by have := h.size; simp at this; omega, fun k hk => (h.block k (by simp; omega) (by simp; omega)).trans (Below.heap_alloc w o k hk)⟩

set_option maxRecDepth 100000 in
set_option maxHeartbeats 8000000 in
theorem next_any {B : Nat} {v : Value} {l : List UInt8} (w : World) (hv : BSl w B v l) (hm : Mx w) (hn : l.length ≤ 1048576) :
    Calls Try.prog 20 #[v] w fun e w' => NxRet w.heap.size w' e l (Rq.nxt l) ∧ Below w.heap.size w w' := by
  obtain ⟨A, c, rfl, hrd, hB, hlc, hcm, hsub⟩ := hv
  cases l with
  | nil =>
    go_enter Try.func20, Try.ntmps20
    go_wp2_with fail
    go_ret3
    exact ⟨rfl, Below.refl _ _⟩
  | cons b t =>
    obtain ⟨a, rfl, hab, hcell⟩ := hrd.2 (by simp)
    have hnn : 0 < (b :: t).length := by simp
    obtain ⟨l, hl⟩ : ∃ l, b :: t = l := ⟨_, rfl⟩
    have hfst : w.cell? a = some (.int .u8 b.toNat) := hrd.first hnn b rfl
    rw [hl] at hrd hlc hn hnn hcell ⊢
    obtain ⟨n, hnl⟩ : ∃ n, l.length = n := ⟨_, rfl⟩
    rw [hnl] at hrd hlc hn hnn ⊢
    have hrest : Rest (w.alloc (.cells #[.slice (some a) n c, .int .i64 0, .int .i64 0] 59)) w.heap.size n c a l 0 0 :=
      ⟨Blk.new _ _ _, (hrd.alloc hB _).more hB, hnl.symm, hlc, hcm, Nat.zero_le _⟩
    have HNL := Lib.hid hnl
    have hal : a.block < w.heap.size := by omega
    have hpos : (0 : Int) < (n : Int) := by omega
    have hfst' : (w.alloc (.cells #[.slice (some a) n c, .int .i64 0, .int .i64 0] 59)).cell? a = some (.int .u8 b.toNat) := (Below.cell ((Below.refl w.heap.size w).alloc (Nat.le_refl _) _) (p := a) hal).trans hfst
    by_cases hb : b = 42
    · subst hb
      have hnx := Lib.hid (show Rq.nxt l = Rq.arr (l.drop (0 + 1)) by rw [← hl]; simp [Rq.nxt])
      clear hl hnl hcell
      rcases harr : Rq.arr (l.drop (0 + 1)) with _ | _ | ⟨ss, r⟩
      · have HX := Lib.hid (hnx.out.trans harr)
        clear hsub
        go_enter Try.func20, Try.ntmps20
        go_wp2_with fail
        refine (array_none _ hrest hnn (hm.alloc _) hn harr).mono ?_
        rintro e w1 ⟨v, rfl, ⟨p, hR⟩, hg⟩
        have c2 := hR.1.cell 2
        go_wp2_with fail
        go_quiet (fail)
        go_wp2_with fail
        go_ret3
        rw [HX.out]
        exact ⟨rfl, Lib.below_drewN' (below_of_new hg) _⟩
      · have HX := Lib.hid (hnx.out.trans harr)
        clear hsub
        go_enter Try.func20, Try.ntmps20
        go_wp2_with fail
        refine (array_part _ hrest hnn (hm.alloc _) hn harr).mono ?_
        rintro e w1 ⟨v, rfl, ⟨p, hR⟩, hg⟩
        have c2 := hR.1.cell 2
        go_wp2_with fail
        go_quiet (fail)
        go_wp2_with fail
        go_ret3
        rw [HX.out]
        exact ⟨rfl, Lib.below_drewN' (below_of_new hg) _⟩
      · have HX := Lib.hid (hnx.out.trans harr)
        obtain ⟨q, hq⟩ : ∃ q, n - r.length = q := ⟨_, rfl⟩
        have HQ := Lib.hid hq
        clear hq
        clear hsub
        go_enter Try.func20, Try.ntmps20
        go_wp2_with fail
        refine (array_some _ hrest hnn (hm.alloc _) hn harr q HQ.out).mono ?_
        rintro e w1 ⟨v, rfl, hO, hR, hg⟩
        have c1 := hR.1.cell 1
        go_wp2_with fail
        go_quiet (fail)
        go_wp2_with fail
        go_ret3
        rw [HX.out]
        refine ⟨⟨v, ?_, hO.mono (by simp)⟩, Lib.below_drewN' (below_of_new hg) _⟩
        rw [HNL.out, HQ.out]; rfl
    · have hnx := Lib.hid (show Rq.nxt l = Rq.inl (l.drop 0) by rw [← hl]; simp [Rq.nxt, hb])
      have q1 := u8_f (c := b) 42 rfl hb
      have HS := Lib.hid (show a = ⟨a.block, a.off, none⟩ by have := hsub a rfl; cases a; simp at this; rw [this])
      clear hl hnl hcell hb
      rcases harr : Rq.inl (l.drop 0) with _ | _ | ⟨ss, r⟩
      · have HX := Lib.hid (hnx.out.trans harr)
        clear hsub
        go_enter Try.func20, Try.ntmps20
        go_wp2_with fail
        refine (inline_none _ hrest HS.out hn harr).mono ?_
        rintro e w1 ⟨v, rfl, ⟨p, hR⟩, hg⟩
        have c2 := hR.1.cell 2
        go_wp2_with fail
        go_quiet (fail)
        go_wp2_with fail
        go_ret3
        rw [HX.out]
        exact ⟨rfl, Lib.below_drewN' (below_of_new hg) _⟩
      · have HX := Lib.hid (hnx.out.trans harr)
        clear hsub
        go_enter Try.func20, Try.ntmps20
        go_wp2_with fail
        refine (inline_part _ hrest HS.out hn harr).mono ?_
        rintro e w1 ⟨v, rfl, ⟨p, hR⟩, hg⟩
        have c2 := hR.1.cell 2
        go_wp2_with fail
        go_quiet (fail)
        go_wp2_with fail
        go_ret3
        rw [HX.out]
        exact ⟨rfl, Lib.below_drewN' (below_of_new hg) _⟩
      · have HX := Lib.hid (hnx.out.trans harr)
        obtain ⟨q, hq⟩ : ∃ q, n - r.length = q := ⟨_, rfl⟩
        have HQ := Lib.hid hq
        clear hq
        clear hsub
        go_enter Try.func20, Try.ntmps20
        go_wp2_with fail
        refine (inline_some _ hrest HS.out hn harr q HQ.out).mono ?_
        rintro e w1 ⟨v, rfl, hO, hR, hg⟩
        have c1 := hR.1.cell 1
        go_wp2_with fail
        go_quiet (fail)
        go_wp2_with fail
        go_ret3
        rw [HX.out]
        refine ⟨⟨v, ?_, hO.mono (by simp)⟩, Lib.below_drewN' (below_of_new hg) _⟩
        rw [HNL.out, HQ.out]; rfl
end Go.Proofs.Ytjdnpgdedbegfaa
