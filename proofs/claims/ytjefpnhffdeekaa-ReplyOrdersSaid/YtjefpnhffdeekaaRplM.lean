/- Words for replies in memory: a row of one's own, what a call gives back, a call as one step of a region that draws its order. -/
import Derived.Test.YtjefpnhffdeekaaRplR
import Derived.Test.YtjefpnhffdeekaaKeep
import Derived.Deep.RegionLaw
import Derived.Deep.RegionHeld
import Derived.Lib.SmallJoins
namespace Go.Proofs.Ytjefpnhffdeekaa
open Go.RowKit
set_option linter.unusedVariables false

theorem Own.sliceForm {w : World} {B e size n : Nat} {v : Value} {xs : List Value} (h : Own w B e size v n xs) : ∃ A c, v = .slice A n c := by
  rcases h.form with ⟨h1, h2⟩ | ⟨g, cap, h1, _⟩
  · exact ⟨none, 0, by rw [h1, h2]⟩
  · exact ⟨_, _, h1⟩
theorem Own.caps {w : World} {B e size n c : Nat} {A : Option Addr} {xs : List Value} (h : Own w B e size (.slice A n c) n xs) : n ≤ c ∧ c ≤ maxLen := by
  rcases h.form with ⟨h1, h2⟩ | ⟨gg, cap, h1, h2, h3, h4, h5⟩
  · injection h1 with e1 e2 e3; subst e3; exact ⟨by omega, by unfold maxLen; omega⟩
  · injection h1 with e1 e2 e3; subst e3; exact ⟨h4, h5⟩
theorem repinfo : (Try.prog.info? 25).map (fun i => (i.zero, i.size, i.bytes)) = some (some (.agg #[.int .i64 0, .string ⟨#[]⟩, .int .i64 0, .slice none 0 0]), 4, 56) := by kernel_rfl
theorem repsize : (Try.prog.info? 25).map (·.size) = some 4 := by kernel_rfl
theorem load_blk {w : World} {g : Nat} {t : TypeId} {c0 c1 c2 c3 : Value} (h : Blk w g t #[c0, c1, c2, c3]) : (loadVar 25 ⟨g, 0, none⟩).run Try.prog w = .ok (.agg #[c0, c1, c2, c3]) w :=
  run_loadVar_row w g t 25 _ _ _ h Try.underlying25 rfl repsize
theorem ret_cell1 {fn : Func} {p : Tmp} (h : fn.results = #[.cell p 25]) (tmps : Array Value) (w : World) (g : Nat) (t : TypeId) (c0 c1 c2 c3 : Value)
    (hp : tmps.getD p undef = .pointer (some ⟨g, 0, none⟩)) (hg : Blk w g t #[c0, c1, c2, c3]) : (results fn tmps).run Try.prog w = .ok (.agg #[c0, c1, c2, c3]) w :=
  results_cell_row h tmps w g t _ _ _ hp hg Try.underlying25 rfl repsize
theorem ret_cell2 {fn : Func} {p u : Tmp} (h : fn.results = #[.cell p 25, .tmp u]) (tmps : Array Value) (w : World) (g : Nat) (t : TypeId) (c0 c1 c2 c3 : Value)
    (hp : tmps.getD p undef = .pointer (some ⟨g, 0, none⟩)) (hg : Blk w g t #[c0, c1, c2, c3]) : (results fn tmps).run Try.prog w = .ok (.tuple #[.agg #[c0, c1, c2, c3], tmps.getD u undef]) w := by
  rw [results_cell_tmp h, hp]
  simp only [asAddr, Sem.run_pure, Result.andThen_ok, load_blk hg]
theorem Blk.put4 {w : World} {g : Nat} {t : TypeId} {a b c d : Value} (h : Blk w g t #[a, b, c, d]) (a' b' c' d' : Value) : Blk ((((w.setCell ⟨g, 0, none⟩ a').setCell ⟨g, 1, none⟩ b').setCell ⟨g, 2, none⟩ c').setCell ⟨g, 3, none⟩ d') g t #[a', b', c', d'] := by
  have := (((h.set_ 0 a').set_ 1 b').set_ 2 c').set_ 3 d'
  simpa using this
def put4 (w : World) (g : Nat) (a b c d : Value) : World := (((w.setCell ⟨g, 0, none⟩ a).setCell ⟨g, 1, none⟩ b).setCell ⟨g, 2, none⟩ c).setCell ⟨g, 3, none⟩ d
theorem put4_size (w : World) (g : Nat) (a b c d : Value) : (put4 w g a b c d).heap.size = w.heap.size := by simp [put4]
theorem put4_cell (w : World) (g : Nat) (a b c d : Value) (p : Addr) (h : p.block ≠ g) : (put4 w g a b c d).cell? p = w.cell? p := by
  unfold put4
  rw [World.cell?_setCell_other _ _ _ _ (fun e => h (by rw [← e])), World.cell?_setCell_other _ _ _ _ (fun e => h (by rw [← e])), World.cell?_setCell_other _ _ _ _ (fun e => h (by rw [← e])), World.cell?_setCell_other _ _ _ _ (fun e => h (by rw [← e]))]
theorem put4_below {w0 w : World} {B : Nat} (h : Below B w0 w) (g : Nat) (hg : B ≤ g) (a b c d : Value) : Below B w0 (put4 w g a b c d) :=
  ⟨h.os, h.tape, h.output, by rw [put4_size]; exact h.size, fun k hk => by
    unfold put4
    rw [Below.heap_setCell _ _ _ k (by simp; omega), Below.heap_setCell _ _ _ k (by simp; omega), Below.heap_setCell _ _ _ k (by simp; omega), Below.heap_setCell _ _ _ k (by simp; omega)]
    exact h.block k hk⟩
theorem put4_own {w : World} {B e size n : Nat} {v : Value} {xs : List Value} (h : Own w B e size v n xs) {g : Nat} (hg : v.ownBlock ≠ some g) (a b c d : Value) : Own (put4 w g a b c d) B e size v n xs :=
  (((h.far (p := ⟨g, 0, none⟩) hg a).far (p := ⟨g, 1, none⟩) hg b).far (p := ⟨g, 2, none⟩) hg c).far (p := ⟨g, 3, none⟩) hg d
abbrev New (w w' : World) : Nat → Prop := fun b => w.heap.size ≤ b ∧ b < w'.heap.size
theorem put4_rv {w w3 w2 : World} {r : Rep} {cs : List Value} (h : RV w3 (New w2 w3) r cs) (hw : w.heap.size < w2.heap.size) (a b c d : Value) : RV (put4 w3 w.heap.size a b c d) (New w (put4 w3 w.heap.size a b c d)) r cs :=
  RV.mono (fun k hk => ⟨by have := hk.1; omega, by rw [put4_size]; exact hk.2⟩) (RV.keep (fun p hp => put4_cell _ _ _ _ _ _ p (by have := hp.1; omega)) h)
theorem RV.flat_ {w : World} {S : Nat → Prop} {k n : Int} {s : List UInt8} (hk : fits k) (hn : fits n) (hs : s.length ≤ maxLen) : RV w S (.mk k s n []) [.int .i64 k, sv s, .int .i64 n, .slice none 0 0] :=
  RV.mk_ hk hn hs (Nat.le_refl _) (Nat.zero_le _) (RD.nil _ _ _) RLs.nil
/-- A row of replies of one's own gets one more. -/
theorem RLs.push {B : Nat} {wr w1 w3 w4 : World} {acc : List Rep} {i : Nat} {v v' : Value} {xs cs : List Value} {r : Rep}
    (hBw : B ≤ wr.heap.size) (hown : Own wr B 25 4 v i xs) (hrl : RLs wr (fun b => B ≤ b ∧ b < wr.heap.size ∧ some b ≠ v.ownBlock) acc xs)
    (hb1 : Below wr.heap.size wr w1) (hrv : RV w1 (New wr w1) r cs) (hb3 : Below w1.heap.size w1 w3) (hg4 : w3.grownBy w4 v.ownBlock) (hat : v'.ownBlock = v.ownBlock ∨ v'.ownBlock = some w3.heap.size) :
    RLs w4 (fun b => B ≤ b ∧ b < w4.heap.size ∧ some b ≠ v'.ownBlock) (acc ++ [r]) (xs ++ cs) := by
  have hsz := hb1.size
  have hsz3 := hb3.size
  have hsz4 := hg4.size
  have hlt := hown.lt
  have hc14 : ∀ p : Addr, p.block < w1.heap.size → some p.block ≠ v.ownBlock → w4.cell? p = w1.cell? p := fun p hp hne =>
    (World.cell?_of_block (hg4.block _ (Nat.lt_of_lt_of_le hp hsz3) hne)).trans (hb3.cell hp)
  have hnv : ∀ b, wr.heap.size ≤ b → some b ≠ v.ownBlock := fun b hb e => by have := (hlt b e.symm).2; omega
  refine RLs.append ?_ (RLs.one ?_)
  · refine RLs.mono ?_ (RLs.keep (S := fun b => B ≤ b ∧ b < wr.heap.size ∧ some b ≠ v.ownBlock) ?_ hrl)
    · intro b hb
      refine ⟨hb.1, by omega, fun e => ?_⟩
      rcases hat with h | h
      · exact hb.2.2 (e.trans h)
      · rw [h] at e; injection e with e; have := hb.2.1; omega
    · intro p hp
      rw [hc14 p (Nat.lt_of_lt_of_le hp.2.1 hsz) hp.2.2, hb1.cell hp.2.1]
  · refine RV.mono ?_ (RV.keep (S := New wr w1) ?_ hrv)
    · intro b hb
      refine ⟨Nat.le_trans hBw hb.1, by have := hb.2; omega, fun e => ?_⟩
      rcases hat with h | h
      · exact hnv b hb.1 (e.trans h)
      · rw [h] at e; injection e with e; have := hb.2; omega
    · intro p hp
      exact hc14 p hp.2 (hnv _ hp.1)
theorem RLs.far {B : Nat} {w : World} {acc : List Rep} {v : Value} {xs : List Value} (h : RLs w (fun b => B ≤ b ∧ b < w.heap.size ∧ some b ≠ v.ownBlock) acc xs) {g : Nat} (hg : g < B) (i : Nat) (u : Value) :
    RLs (w.setCell ⟨g, i, none⟩ u) (fun b => B ≤ b ∧ b < (w.setCell ⟨g, i, none⟩ u).heap.size ∧ some b ≠ v.ownBlock) acc xs := by
  rw [World.size_setCell]
  exact RLs.keep (fun p hp => World.cell?_setCell_other _ _ _ _ (fun e => by subst e; have := hp.1; simp at this; omega)) h
/-- A row of replies of one's own, all its parts new from B on. -/
def OR (w : World) (B : Nat) (v : Value) (acc : List Rep) : Prop :=
  ∃ xs, Own w B 25 4 v acc.length xs ∧ RLs w (fun b => B ≤ b ∧ b < w.heap.size ∧ some b ≠ v.ownBlock) acc xs
theorem OR.nil (w : World) (B : Nat) : OR w B (.slice none 0 0) [] := ⟨[], Own.nil _ _ _ _, RLs.nil⟩
theorem OR.form {w : World} {B : Nat} {v : Value} {acc : List Rep} (h : OR w B v acc) : ∃ A c, v = .slice A acc.length c := by
  obtain ⟨xs, h1, h2⟩ := h; exact h1.sliceForm
theorem OR.lt {w : World} {B : Nat} {v : Value} {acc : List Rep} (h : OR w B v acc) : ∀ k, v.ownBlock = some k → B ≤ k ∧ k < w.heap.size := by
  obtain ⟨xs, h1, h2⟩ := h; exact h1.lt
theorem OR.far {w : World} {B : Nat} {v : Value} {acc : List Rep} (h : OR w B v acc) {g : Nat} (hg : g < B) (i : Nat) (u : Value) : OR (w.setCell ⟨g, i, none⟩ u) B v acc := by
  obtain ⟨xs, h1, h2⟩ := h
  exact ⟨xs, h1.far (fun e => by have := (h1.lt _ e).1; simp at this; omega) u, h2.far hg i u⟩
theorem OR.put4 {w : World} {B : Nat} {v : Value} {acc : List Rep} (h : OR w B v acc) {g : Nat} (hg : g < B) (a b c d : Value) : OR (put4 w g a b c d) B v acc :=
  (((h.far hg 0 a).far hg 1 b).far hg 2 c).far hg 3 d
theorem OR.below {w w' : World} {B : Nat} {v : Value} {acc : List Rep} (h : OR w B v acc) (hb : Below w.heap.size w w') : OR w' B v acc := by
  obtain ⟨xs, h1, h2⟩ := h
  exact ⟨xs, h1.below_ hb, RLs.mono (fun b hb' => ⟨hb'.1, Nat.lt_of_lt_of_le hb'.2.1 hb.size, hb'.2.2⟩) (RLs.keep (fun p hp => hb.cell hp.2.1) h2)⟩
theorem OR.drew {w : World} {B : Nat} {v : Value} {acc : List Rep} (h : OR w B v acc) : OR w.drew B v acc := h.below (Below.refl _ _).drew
theorem OR.alloc {w : World} {B : Nat} {v : Value} {acc : List Rep} (h : OR w B v acc) (o : Obj) : OR (w.alloc o) B v acc := h.below ((Below.refl _ _).alloc (Nat.le_refl _) o)
theorem OR.mono {w : World} {B B' : Nat} {v : Value} {acc : List Rep} (h : OR w B v acc) (hB : B' ≤ B) : OR w B' v acc := by
  obtain ⟨xs, h1, h2⟩ := h
  exact ⟨xs, h1.mono hB, RLs.mono (fun b hb => ⟨Nat.le_trans hB hb.1, hb.2⟩) h2⟩
theorem OR.rv {w : World} {B : Nat} {k n : Int} {s : List UInt8} {A : Option Addr} {c i : Nat} {acc : List Rep} {S : Nat → Prop} (h : OR w B (.slice A i c) acc) (hk : fits k) (hn : fits n) (hs : s.length ≤ maxLen) (hi : i = acc.length)
    (hS : ∀ b, B ≤ b → b < w.heap.size → S b) : RV w S (.mk k s n acc) [.int .i64 k, sv s, .int .i64 n, .slice A acc.length c] := by
  subst hi
  obtain ⟨xs, h1, h2⟩ := h
  have hf := Own.caps h1
  exact RV.mk_ hk hn hs (by omega) hf.2 (xs := xs) (RD.of_own h1 (fun kk hkk => hS _ (h1.lt kk hkk).1 (h1.lt kk hkk).2)) (RLs.mono (fun b hb => hS _ hb.1 hb.2.1) h2)
/-- A slice of one's own as what is read. -/
theorem OR.rls {w : World} {B : Nat} {v : Value} {acc : List Rep} (h : OR w B v acc) : ∃ xs, Own w B 25 4 v acc.length xs ∧ RLs w (fun b => B ≤ b ∧ b < w.heap.size) acc xs := by
  obtain ⟨xs, h1, h2⟩ := h
  exact ⟨xs, h1, RLs.mono (fun b hb => ⟨hb.1, hb.2.1⟩) h2⟩


/-- A reply, new, is given back. -/
def FRet (w w' : World) (e : Ending) (r : Rep) : Prop := ∃ E f, e = .returned (.agg #[.int .i64 r.k, sv r.s, .int .i64 r.n, .slice E r.l.length f]) ∧ RV w' (New w w') r [.int .i64 r.k, sv r.s, .int .i64 r.n, .slice E r.l.length f]

theorem step_call {P : Program} {ops : Array Oper} {o : Oper} {a : Act} {w : World} {K : Act → World → Prop} {Q : Exit → Act → World → Prop} {E : Prop} (hgd : o.guard = none) (f : FuncId) (xs : Array Operand) (ts : Array TypeId)
    (ho : o.op = .call { callee := .value (.func f), args := xs, argTypes := ts }) {R : Ending → World → Prop} (vals : Array Value) (hc : Calls P f vals w R) (hv : xs.map a.eval = vals)
    (he : ∀ args w, (callFunc f args).run P w = .ok (.enter f args) w) (hR : ∀ e w', R e w' → ∃ v, e = .returned v ∧ K (a.put o.dst v) w') : if Region.wanted o (yielded ops a.tmps) = true then Oper.wp P o a w K Q else E := by
  subst hv
  have hw : Region.wanted o (yielded ops a.tmps) = true := by simp [Region.wanted, hgd]
  rw [if_pos hw]
  unfold Oper.wp execOp
  simp only [ho]
  have e1 : a.eval (.func f) = .func (.func f) #[] #[] := rfl
  simp [resolve, invoke, e1, Deferred.ofValue, he]
  simp only [Oper.upon]
  refine hc.mono fun e w' h => ?_
  obtain ⟨v, rfl, hk⟩ := hR e w' h
  exact hk
theorem enter_of {P : Program} {f : FuncId} {fn : Func} (hf : P.funcs[f]? = some fn) (hname : (fn.name == "runtime.NumGoroutine") = false) (hb : fn.body.isSome = true) : ∀ args w, (callFunc f args).run P w = .ok (.enter f args) w := by
  intro args w
  obtain ⟨c, hc⟩ := Option.isSome_iff_exists.1 hb
  have hn : ¬ fn.name = "runtime.NumGoroutine" := by simpa using hname
  simp [callFunc, hf, hn, hc]

end Go.Proofs.Ytjefpnhffdeekaa
