/- The walk of known (package tallboylaw19). -/
import Derived.Test.YtjdnpgdedbegfaaReqF
namespace Go.Proofs.Ytjdnpgdedbegfaa
open Go.RowKit Go.Shelf
set_option linter.unusedVariables false

theorem BSl.own {w : World} {B : Nat} {v : Value} {l : List UInt8} (h : OB w B 5 v l) : BSl w w.heap.size v l := by
  rcases Own.form h with ⟨rfl, h0⟩ | ⟨g, cap, rfl, h1, h2, h3, h4⟩
  · have hl : l = [] := List.eq_nil_of_length_eq_zero h0
    subst hl
    exact ⟨none, 0, rfl, Own.own_reads h (Nat.le_refl _), Nat.le_refl _, Nat.le_refl _, Nat.zero_le _, fun a e => by cases e⟩
  · exact ⟨_, cap, rfl, Own.own_reads h (Nat.le_refl _), Nat.le_refl _, h3, h4, fun a e => by injection e with e; subst e; rfl⟩
theorem Own.litz (w : World) (base : Nat) (e : TypeId) (cs : Array Value) (n : Nat) (hb : base ≤ w.heap.size) (hm : n ≤ maxLen) (hs : cs.size = n) :
    Own (w.alloc (.cells cs e (n, n + 1))) base e 1 (.slice (some ⟨w.heap.size, 0, none⟩) n n) n cs.toList := by
  refine ⟨by rw [Array.length_toList, hs]; omega, .inr ⟨w.heap.size, n, cs, (n, n + 1), rfl, hb, heap_alloc_new w _, by rw [hs]; exact NF.behind n, Nat.le_refl _, hm, by omega, ?_⟩⟩
  rw [List.take_of_length_le (by rw [Array.length_toList]; omega)]
theorem all_ret {B : Nat} {v : Value} {l : List UInt8} (w : World) (hv : BSl w B v l) (hm : Mx w) (hn : l.length ≤ 1048576) {x : List (List (List UInt8))} {r : List UInt8} {bad : Bool} (hr : Rq.all l = (x, r, bad)) (k why : Int) (hk : ((l.length - r.length : Nat) : Int) = k) (hw : (if bad = true then 16 else 0) = why) :
    Calls Try.prog 10 #[v] w fun e w' => ∃ A c, e = .returned (.tuple #[.slice A x.length c, .int .i64 k, .int .i64 why]) ∧ LL w' w.heap.size (.slice A x.length c) x ∧ Below w.heap.size w w' :=
  (all_any w hv hm hn).mono fun e w' ⟨⟨u, h1, h2⟩, hg⟩ => by
    rw [hr] at h1 h2
    obtain ⟨A, c, rfl⟩ := h2.form
    subst hk; subst hw
    exact ⟨A, c, h1, h2, hg⟩
theorem LL.at_ {w : World} {B : Nat} {A : Option Addr} {n c : Nat} {ws : List (List (List UInt8))} (h : LL w B (.slice A n c) ws) (k : Nat) (hk : k < ws.length) : ∃ a A1 c1, A = some a ∧ w.cell? (a.add k) = some (.slice A1 ws[k].length c1) ∧ Reads w w.heap.size 1 A1 ws[k].length (ws[k].map sv) := by
  obtain ⟨vs, h1, h2⟩ := h
  obtain ⟨A', c', e⟩ := h1.sliceForm
  injection e with e1 e2 e3
  subst e1; subst e2; subst e3
  have hr := h1.own_reads (Nat.le_refl _)
  obtain ⟨ad, u, h3, h4, h5, h6⟩ := hr.at_ hk
  have hO := h2 k ws[k] u (List.getElem?_eq_getElem hk) h5
  obtain ⟨A1, c1, rfl⟩ := hO.sliceForm
  exact ⟨ad, A1, c1, h3, h6, hO.own_reads (Nat.le_refl _)⟩

set_option maxRecDepth 100000 in
set_option maxHeartbeats 4000000 in
theorem known_any (w : World) (hm : Mx w) : Calls Try.prog 13 #[] w fun e w' => e = .returned (.bool true) ∧ Below w.heap.size w w' := by
  have ha : Rq.all [80, 73, 78, 71, 13, 10] = ([[[80, 73, 78, 71]]], [], false) := by decide +kernel
  have hx : Rq.nxt [42, 120, 13, 10] = none := by decide +kernel
  have HA := Lib.hid ha
  have HX := Lib.hid hx
  clear ha hx
  have ho1 : BSl (w.alloc (.cells #[.int .u8 80, .int .u8 73, .int .u8 78, .int .u8 71, .int .u8 13, .int .u8 10] 5 (6, 7))) (w.heap.size + 1) (.slice (some ⟨w.heap.size, 0, none⟩) 6 6) [80, 73, 78, 71, 13, 10] := by
    have := BSl.own (l := [80, 73, 78, 71, 13, 10]) (B := w.heap.size) (OB.mk (Own.litz w w.heap.size 5 #[.int .u8 80, .int .u8 73, .int .u8 78, .int .u8 71, .int .u8 13, .int .u8 10] 6 (Nat.le_refl _) (by decide) rfl) rfl)
    simpa using this
  have HO1 := Lib.hid ho1
  clear ho1
  have kc := fun (w : World) (C : Array Value) (n c : Nat) => Lib.run_convert_bytes_const (P := Try.prog) w 30 5 C n c Try.underlying30 Try.underlying5
  go_enter Try.func13, Try.ntmps13
  go_wp2_with fail
  refine (all_ret _ HO1.out (hm.alloc _) (by decide) HA.out 6 0 rfl rfl).mono ?_
  rintro e w1 ⟨A, c, rfl, hLL, hb1⟩
  simp only [World.size_alloc] at hLL hb1
  go_wp2_with fail
  have hbl1 : Below w.heap.size w w1 := ((Below.refl _ _).alloc (Nat.le_refl _) _).trans (hb1.mono (Nat.le_succ _))
  have hz1 := hbl1.size
  have hb2 := (Below.refl w1.heap.size w1).alloc (Nat.le_refl _) (.cells #[.int .u8 42, .int .u8 120, .int .u8 13, .int .u8 10] 5 (4, 5))
  have ho2 : BSl (w1.alloc (.cells #[.int .u8 42, .int .u8 120, .int .u8 13, .int .u8 10] 5 (4, 5))) (w1.heap.size + 1) (.slice (some ⟨w1.heap.size, 0, none⟩) 4 4) [42, 120, 13, 10] := by
    have := BSl.own (l := [42, 120, 13, 10]) (B := w1.heap.size) (OB.mk (Own.litz w1 w1.heap.size 5 #[.int .u8 42, .int .u8 120, .int .u8 13, .int .u8 10] 4 (Nat.le_refl _) (by decide) rfl) rfl)
    simpa using this
  refine (next_none _ ho2 ((hm.below_ hbl1).alloc _) (by decide) HX.out).mono ?_
  rintro e w2 ⟨rfl, hb3⟩
  have hbl2 : Below w.heap.size w w2 := (hbl1.alloc hz1 _).trans (hb3.mono (by simp; omega))
  have hL2 := (hLL.alloc _).below_ hb3
  obtain ⟨a, A1, c1, rfl, hc0, hrd⟩ := hL2.at_ 0 (by simp)
  have hc1 : w2.cell? a = some (.slice A1 1 c1) := by
    rw [show a.add 0 = a from by unfold Addr.add; rw [if_pos rfl]] at hc0
    exact hc0
  have HRD := Lib.hid hrd
  clear hc0 hrd ho2 hLL hL2
  go_wp2_with fail
  have hrd2 : Reads (w2.alloc (.cells #[.string ⟨#[80, 73, 78, 71]⟩] 9)) w2.heap.size 1 A1 1 [sv [80, 73, 78, 71]] := HRD.out.alloc (Nat.le_refl _) _
  have hrd3 : Reads (w2.alloc (.cells #[.string ⟨#[80, 73, 78, 71]⟩] 9)) (w2.heap.size + 1) 1 (some ⟨w2.heap.size, 0, none⟩) 1 [sv [80, 73, 78, 71]] := by
    have := (Own.lit (e := 9) (base := w.heap.size) (size := 1) w2 #[sv [80, 73, 78, 71]] 1 hbl2.size (by decide) rfl).own_reads (Nat.le_refl _)
    rw [World.size_alloc] at this
    exact this
  refine (lists_same _ (by decide) hrd2 hrd3 (by intro x hx; simp at hx; exact ⟨_, hx⟩)).mono ?_
  rintro e w3 ⟨rfl, q, rfl⟩
  go_wp2_with fail
  go_ret
  exact ⟨rfl, Lib.below_drewN' (hbl2.alloc hbl2.size _) q⟩
end Go.Proofs.Ytjdnpgdedbegfaa
