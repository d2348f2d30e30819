/- The walk of rest's many, out of what reply gives one level deeper. -/
import Derived.Test.YtjdnpgdedbegfaaDoorRspH
import Derived.Laws.Rows
import Derived.Laws.ResultCell
namespace Go.Proofs.YtjdnpgdedbegfaaDoor.Rsp
theorem sfx_trans {a b c : List UInt8} (h : a <:+ b) (k : b <:+ c) : a <:+ c := h.trans k
theorem reps_sfx {f : List UInt8 → Option (Rep × List UInt8)} (hf : ∀ b r t, f b = some (r, t) → t <:+ b) : ∀ (m : Nat) {b t : List UInt8} {l : List Rep}, reps f m b = some (l, t) → t <:+ b
  | 0, b, t, l, h => by
    unfold reps at h
    injection h with h; injection h with h1 h2
    subst h2; exact List.suffix_refl _
  | m + 1, b, t, l, h => by
    unfold reps at h
    cases hb : f b with
    | none => rw [hb] at h; cases h
    | some p =>
      obtain ⟨r, u⟩ := p
      rw [hb] at h
      simp only at h
      cases hm : reps f m u with
      | none => rw [hm] at h; cases h
      | some q =>
        obtain ⟨l', v⟩ := q
        rw [hm] at h
        have := reps_sfx hf m hm
        have h2 := hf _ _ _ hb
        simp only [Option.some.injEq, Prod.mk.injEq] at h
        obtain ⟨rfl, rfl⟩ := h
        exact this.trans h2
theorem many_sfx {k n : Int} {f : List UInt8 → Option (Rep × List UInt8)} {L m : Nat} {t u : List UInt8} {r : Rep} (hf : ∀ b r t, f b = some (r, t) → t <:+ b) (h : many k f L n m t = some (r, u)) : u <:+ t := by
  unfold many at h
  split at h
  · cases h
  · cases hm : reps f m t with
    | none => rw [hm] at h; cases h
    | some p =>
      obtain ⟨l, v⟩ := p
      rw [hm] at h
      have := reps_sfx hf m hm
      simp only [Option.map_some, Option.some.injEq, Prod.mk.injEq] at h
      rw [← h.2]; exact this
theorem cnt_sfx {c : UInt8} {n : Int} {f : List UInt8 → Option (Rep × List UInt8)} {L : Nat} {t u : List UInt8} {r : Rep} (hf : ∀ b r t, f b = some (r, t) → t <:+ b) (h : cnt f L c n t = some (r, u)) : u <:+ t := by
  have hs : ∀ {a b : Rep} {v : List UInt8}, some (a, t) = some (b, v) → v <:+ t := by
    intro a b v h; injection h with h; injection h with h1 h2; rw [h2]; exact List.suffix_refl _
  unfold cnt at h
  by_cases h4 : c = 58
  · rw [if_pos h4] at h; exact hs h
  · rw [if_neg h4] at h
    by_cases h5 : c = 36
    · rw [if_pos h5] at h
      by_cases h6 : n = -1
      · rw [if_pos h6] at h; exact hs h
      · rw [if_neg h6] at h
        unfold bulk at h
        split at h
        · cases h
        · split at h
          · injection h with h; injection h with h7 h8
            rw [← h8]; exact List.drop_suffix _ _
          · cases h
    · rw [if_neg h5] at h
      by_cases h6 : c = 42
      · rw [if_pos h6] at h
        by_cases h7 : n = -1
        · rw [if_pos h7] at h; exact hs h
        · rw [if_neg h7] at h; exact many_sfx hf h
      · rw [if_neg h6] at h
        by_cases h7 : c = 37
        · rw [if_pos h7] at h; exact many_sfx hf h
        · rw [if_neg h7] at h
          by_cases h8 : c = 126
          · rw [if_pos h8] at h; exact many_sfx hf h
          · rw [if_neg h8] at h; cases h
theorem one_sfx {c : UInt8} {f : List UInt8 → Option (Rep × List UInt8)} {L : Nat} {body t u : List UInt8} {r : Rep} (hf : ∀ b r t, f b = some (r, t) → t <:+ b) (h : one f L c body t = some (r, u)) : u <:+ t := by
  have hs : ∀ {a b : Rep} {v : List UInt8}, some (a, t) = some (b, v) → v <:+ t := by
    intro a b v h; injection h with h; injection h with h1 h2; rw [h2]; exact List.suffix_refl _
  unfold one at h
  by_cases h1 : c = 43
  · rw [if_pos h1] at h; exact hs h
  · rw [if_neg h1] at h
    by_cases h2 : c = 45
    · rw [if_pos h2] at h; exact hs h
    · rw [if_neg h2] at h
      by_cases h3 : c = 95
      · rw [if_pos h3] at h
        by_cases h4 : body = []
        · rw [if_pos h4] at h; exact hs h
        · rw [if_neg h4] at h; cases h
      · rw [if_neg h3] at h
        cases hp : Num.prs body with
        | none => rw [hp] at h; cases h
        | some n => rw [hp] at h; exact cnt_sfx hf h
theorem rd_sfx : ∀ (d : Nat) {L : Nat} {b t : List UInt8} {r : Rep}, rd d L b = some (r, t) → t <:+ b
  | 0, L, b, t, r, h => by cases h
  | d + 1, L, b, t, r, h => by
    unfold rd at h
    cases hb : lnl b with
    | none => rw [hb] at h; cases h
    | some p =>
      obtain ⟨s, u⟩ := p
      rw [hb] at h
      obtain ⟨p, h1, h2⟩ := lnl_suf hb
      cases s with
      | nil => cases h
      | cons c body =>
        have h3 := one_sfx (fun b r t h => rd_sfx d h) h
        rw [h1]; exact h3.trans (List.suffix_append _ _)
theorem sfx_drop {t l : List UInt8} (h : t <:+ l) : t = l.drop (l.length - t.length) := by
  obtain ⟨p, rfl⟩ := h
  simp
theorem rd_drop {d L : Nat} {l t : List UInt8} {p : Nat} {r : Rep} (h : rd d L (l.drop p) = some (r, t)) : t = l.drop (l.length - t.length) :=
  sfx_drop ((rd_sfx d h).trans (List.drop_suffix p l))
/-- Replies, with acc read already and k to go. -/
def RsAt (f : List UInt8 → Option (Rep × List UInt8)) (l0 : List UInt8) (N k : Nat) (acc : List Rep) (rest : List UInt8) : Prop :=
  reps f N l0 = (reps f k rest).map (fun q => (acc ++ q.1, q.2))
theorem RsAt.start (f : List UInt8 → Option (Rep × List UInt8)) (l0 : List UInt8) (N : Nat) : RsAt f l0 N N [] l0 := by
  unfold RsAt
  rcases reps f N l0 with _ | ⟨ss, r⟩ <;> simp
theorem RsAt.bad {f : List UInt8 → Option (Rep × List UInt8)} {l0 rest : List UInt8} {N k : Nat} {acc : List Rep} (h : RsAt f l0 N (k + 1) acc rest) (hb : f rest = none) : reps f N l0 = none := by
  unfold RsAt at h; rw [h]; simp [reps, hb]
theorem RsAt.next {f : List UInt8 → Option (Rep × List UInt8)} {l0 rest : List UInt8} {N k : Nat} {acc : List Rep} (h : RsAt f l0 N (k + 1) acc rest) {r : Rep} {t : List UInt8} (hb : f rest = some (r, t)) : RsAt f l0 N k (acc ++ [r]) t := by
  unfold RsAt at h ⊢; rw [h]; simp only [reps, hb]
  rcases reps f k t with _ | ⟨ss, r'⟩ <;> simp
theorem RsAt.out {f : List UInt8 → Option (Rep × List UInt8)} {l0 rest : List UInt8} {N : Nat} {acc : List Rep} (h : RsAt f l0 N 0 acc rest) : reps f N l0 = some (acc, rest) := by
  unfold RsAt at h; rw [h]; simp [reps]
end Go.Proofs.YtjdnpgdedbegfaaDoor.Rsp
namespace Go.Proofs.YtjdnpgdedbegfaaDoor
open Go.RowKit Go.Shelf
set_option linter.unusedVariables false

theorem repinfo : (Tryd.prog.info? 27).map (fun i => (i.zero, i.size, i.bytes)) = some (some (.agg #[.int .i64 0, .string ⟨#[]⟩, .int .i64 0, .slice none 0 0]), 4, 56) := by kernel_rfl
theorem repsize : (Tryd.prog.info? 27).map (·.size) = some 4 := by kernel_rfl
theorem load_blk {w : World} {g : Nat} {t : TypeId} {c0 c1 c2 c3 : Value} (h : Blk w g t #[c0, c1, c2, c3]) : (loadVar 27 ⟨g, 0, none⟩).run Tryd.prog w = .ok (.agg #[c0, c1, c2, c3]) w :=
  run_loadVar_row w g t 27 _ _ _ h Tryd.underlying27 rfl repsize
theorem ret_cell1 {fn : Func} {p : Tmp} (h : fn.results = #[.cell p 27]) (tmps : Array Value) (w : World) (g : Nat) (t : TypeId) (c0 c1 c2 c3 : Value)
    (hp : tmps.getD p undef = .pointer (some ⟨g, 0, none⟩)) (hg : Blk w g t #[c0, c1, c2, c3]) : (results fn tmps).run Tryd.prog w = .ok (.agg #[c0, c1, c2, c3]) w :=
  results_cell_row h tmps w g t _ _ _ hp hg Tryd.underlying27 rfl repsize
theorem ret_cell2 {fn : Func} {p u : Tmp} (h : fn.results = #[.cell p 27, .tmp u]) (tmps : Array Value) (w : World) (g : Nat) (t : TypeId) (c0 c1 c2 c3 : Value)
    (hp : tmps.getD p undef = .pointer (some ⟨g, 0, none⟩)) (hg : Blk w g t #[c0, c1, c2, c3]) : (results fn tmps).run Tryd.prog w = .ok (.tuple #[.agg #[c0, c1, c2, c3], tmps.getD u undef]) w := by
  rw [results_cell_tmp h, hp]
  simp only [asAddr, Sem.run_pure, Result.andThen_ok, load_blk hg]
theorem ret_cell3 {fn : Func} {p u v : Tmp} (h : fn.results = #[.cell p 27, .tmp u, .tmp v]) (tmps : Array Value) (w : World) (g : Nat) (t : TypeId) (c0 c1 c2 c3 : Value)
    (hp : tmps.getD p undef = .pointer (some ⟨g, 0, none⟩)) (hg : Blk w g t #[c0, c1, c2, c3]) : (results fn tmps).run Tryd.prog w = .ok (.tuple #[.agg #[c0, c1, c2, c3], tmps.getD u undef, tmps.getD v undef]) w := by
  have hp' : tmps[p]?.getD undef = .pointer (some ⟨g, 0, none⟩) := by simpa using hp
  simp [results, h, hp', asAddr, load_blk hg]

theorem Blk.put4 {w : World} {g : Nat} {t : TypeId} {a b c d : Value} (h : Blk w g t #[a, b, c, d]) (a' b' c' d' : Value) : Blk ((((w.setCell ⟨g, 0, none⟩ a').setCell ⟨g, 1, none⟩ b').setCell ⟨g, 2, none⟩ c').setCell ⟨g, 3, none⟩ d') g t #[a', b', c', d'] := by
  have := (((h.set_ 0 a').set_ 1 b').set_ 2 c').set_ 3 d'
  simpa using this
theorem grown_far {w w' : World} {row : Option Nat} (h : w.grownBy w' row) {g : Nat} (hg : w.heap.size ≤ g) (i : Nat) (u : Value) : w.grownBy (w'.setCell ⟨g, i, none⟩ u) row :=
  ⟨h.os, h.tape, h.output, by rw [World.setCell_size]; exact h.size, fun k hk hne => (Below.heap_setCell w' _ u k (by simp; omega)).trans (h.block k hk hne)⟩
theorem grown_alloc {w w1 : World} {row : Option Nat} (h : w.grownBy w1 row) (o : Obj) : w.grownBy (w1.alloc o) row :=
  ⟨h.os, h.tape, h.output, by simp; have := h.size; omega, fun k hk hne => (Below.heap_alloc w1 o k (Nat.lt_of_lt_of_le hk h.size)).trans (h.block k hk hne)⟩
theorem grown_own {w w1 w2 : World} {row : Option Nat} {v : Value} (h : w.grownBy w1 row) (hg : w1.grownBy w2 v.ownBlock) (hv : ∀ k, v.ownBlock = some k → w.heap.size ≤ k) : w.grownBy w2 row :=
  ⟨hg.os.trans h.os, hg.tape.trans h.tape, hg.output.trans h.output, Nat.le_trans h.size hg.size, fun k hk hne => (hg.block k (Nat.lt_of_lt_of_le hk h.size) (fun e => by have := hv k e.symm; omega)).trans (h.block k hk hne)⟩
theorem own_far_g {w w' : World} {B g : Nat} {e : TypeId} {size n : Nat} {v : Value} {xs : List Value} (h : Own w B e size v n xs) (hg : w.grownBy w' (some g)) (hB : g < B) : Own w' B e size v n xs := by
  refine h.kept hg ?_
  rcases hv : v.ownBlock with _ | k
  · exact .inl rfl
  · have := (h.lt k hv).1
    exact .inr (by simp; omega)

/-- Four cells put. -/
def put4 (w : World) (g : Nat) (a b c d : Value) : World := (((w.setCell ⟨g, 0, none⟩ a).setCell ⟨g, 1, none⟩ b).setCell ⟨g, 2, none⟩ c).setCell ⟨g, 3, none⟩ d
theorem put4_size (w : World) (g : Nat) (a b c d : Value) : (put4 w g a b c d).heap.size = w.heap.size := by simp [put4]
theorem put4_cell (w : World) (g : Nat) (a b c d : Value) (p : Addr) (h : p.block ≠ g) : (put4 w g a b c d).cell? p = w.cell? p := by
  unfold put4
  rw [World.cell?_setCell_other _ _ _ _ (fun e => h (by rw [← e])), World.cell?_setCell_other _ _ _ _ (fun e => h (by rw [← e])), World.cell?_setCell_other _ _ _ _ (fun e => h (by rw [← e])), World.cell?_setCell_other _ _ _ _ (fun e => h (by rw [← e]))]
theorem put4_below {w0 w : World} {B : Nat} (h : Below B w0 w) (g : Nat) (hg : B ≤ g) (a b c d : Value) : Below B w0 (put4 w g a b c d) :=
  ⟨h.os, h.tape, h.output, by rw [put4_size]; exact h.size, fun k hk => by
    unfold put4
    rw [Below.heap_setCell _ _ _ k (by simp; omega), Below.heap_setCell _ _ _ k (by simp; omega), Below.heap_setCell _ _ _ k (by simp; omega), Below.heap_setCell _ _ _ k (by simp; omega)]
    exact h.block k hk⟩
theorem put4_own {w : World} {B e size n : Nat} {v : Value} {xs : List Value} (h : Own w B e size v n xs) {g : Nat} (hg : v.ownBlock ≠ some g) (a b c d : Value) : Own (put4 w g a b c d) B e size v n xs :=
  (((h.far (p := ⟨g, 0, none⟩) hg a).far (p := ⟨g, 1, none⟩) hg b).far (p := ⟨g, 2, none⟩) hg c).far (p := ⟨g, 3, none⟩) hg d
theorem put4_grown {w w' : World} {row : Option Nat} (h : w.grownBy w' row) {g : Nat} (hg : w.heap.size ≤ g) (a b c d : Value) : w.grownBy (put4 w' g a b c d) row :=
  grown_far (grown_far (grown_far (grown_far h hg _ _) hg _ _) hg _ _) hg _ _
theorem put4_rst {w : World} {g n c : Nat} {A : Option Addr} {l : List UInt8} {p : Nat} (h : Rst w g n c A l p) {k : Nat} (hk : g < k) (x y z u : Value) : Rst (put4 w k x y z u) g n c A l p :=
  h.below (put4_below (Below.refl (g + 1) w) k hk x y z u) (Nat.lt_succ_self g)
theorem World.alloc_size (w : World) (o : Obj) : (w.alloc o).heap.size = w.heap.size + 1 := by simp

/-- New blocks. -/
abbrev New (w w' : World) : Nat → Prop := fun b => w.heap.size ≤ b ∧ b < w'.heap.size
/-- What reply and many give. -/
def RRet (w w' : World) (e : Ending) (g n c : Nat) (A : Option Addr) (l : List UInt8) : Option (Rep × List UInt8) → Prop
  | none => ∃ k s m E j f, e = .returned (.tuple #[.agg #[.int .i64 k, .string s, .int .i64 m, .slice E j f], .bool false])
  | some (r, t) => (∃ E f, e = .returned (.tuple #[.agg #[.int .i64 r.k, sv r.s, .int .i64 r.n, .slice E r.l.length f], .bool true]) ∧ RV w' (New w w') r [.int .i64 r.k, sv r.s, .int .i64 r.n, .slice E r.l.length f]) ∧ Rst w' g n c A l (n - t.length)
def ReadAt (d : Nat) : Prop := ∀ (w : World) (g n c : Nat) (A : Option Addr) (l : List UInt8) (p : Nat), Rst w g n c A l p → n ≤ 1048576 → d ≤ 33 →
    Calls Tryd.prog 23 #[.pointer (some ⟨g, 0, none⟩), .int .i64 (34 - (d : Int))] w fun e w' => RRet w w' e g n c A l (Rsp.rd d n (l.drop p)) ∧ w.grownBy w' (some g)

/-- Along many's loop: the blocks of the result, of out; the row. -/
def MLoop (B go : Nat) (k : Int) (g n c : Nat) (A : Option Addr) (l : List UInt8) (f : List UInt8 → Option (Rep × List UInt8)) (l0 : List UInt8) (m i : Nat) (wr : World) : Prop :=
  ∃ acc q v xs, Blk wr go 27 #[.int .i64 k, sv [], .int .i64 0, v] ∧ Own wr B 27 4 v i xs ∧ acc.length = i ∧ RLs wr (fun b => B ≤ b ∧ b < wr.heap.size ∧ some b ≠ v.ownBlock) acc xs ∧ Rst wr g n c A l q ∧ Rsp.RsAt f l0 m (m - i) acc (l.drop q)
theorem MLoop.next {B go : Nat} {k : Int} {g n c : Nat} {A : Option Addr} {l : List UInt8} {f : List UInt8 → Option (Rep × List UInt8)} {l0 : List UInt8} {m i : Nat} {wr w1 w3 w4 : World} {acc : List Rep} {v v' : Value} {xs cs : List Value} {r : Rep} {q' : Nat}
    (hgo : g < go) (hgB : go < B) (hBw : B ≤ wr.heap.size) (hl : acc.length = i) (hown : Own wr B 27 4 v i xs) (hrl : RLs wr (fun b => B ≤ b ∧ b < wr.heap.size ∧ some b ≠ v.ownBlock) acc xs)
    (hblk : Blk wr go 27 #[.int .i64 k, sv [], .int .i64 0, v])
    (hg1 : wr.grownBy w1 (some g)) (hrv : RV w1 (New wr w1) r cs) (hb3 : Below w1.heap.size w1 w3) (hg4 : w3.grownBy w4 v.ownBlock) (hO4 : Own w4 B 27 4 v' (i + 1) (xs ++ cs)) (hat : v'.ownBlock = v.ownBlock ∨ v'.ownBlock = some w3.heap.size)
    (hrst : Rst w1 g n c A l q') (hs : Rsp.RsAt f l0 m (m - (i + 1)) (acc ++ [r]) (l.drop q')) :
    MLoop B go k g n c A l f l0 m (i + 1) (w4.setCell ⟨go, 3, none⟩ v') := by
  have hsz : wr.heap.size ≤ w1.heap.size := hg1.size
  have hsz3 := hb3.size
  have hsz4 := hg4.size
  have hlt := hown.lt
  have hc14 : ∀ p : Addr, p.block < w1.heap.size → some p.block ≠ v.ownBlock → w4.cell? p = w1.cell? p := fun p hp hne =>
    (World.cell?_of_block (hg4.block _ (Nat.lt_of_lt_of_le hp hsz3) hne)).trans (hb3.cell hp)
  have hcell : ∀ p : Addr, B ≤ p.block → p.block < w1.heap.size → some p.block ≠ v.ownBlock → (w4.setCell ⟨go, 3, none⟩ v').cell? p = w1.cell? p := fun p h1 h2 h3 => by
    rw [World.cell?_setCell_other _ _ _ _ (fun e => by subst e; simp at h1; omega)]
    exact hc14 p h2 h3
  have hcw : ∀ p : Addr, p.block < wr.heap.size → p.block ≠ g → w1.cell? p = wr.cell? p := fun p h1 h2 => World.cell?_of_block (hg1.block _ h1 (fun e => h2 (by injection e)))
  have hnv : ∀ b, wr.heap.size ≤ b → some b ≠ v.ownBlock := fun b hb e => by have := (hlt b e.symm).2; omega
  refine ⟨acc ++ [r], q', v', xs ++ cs, ?_, ?_, by simp [hl], ?_, ?_, hs⟩
  · have h1 : Blk w1 go 27 #[.int .i64 k, sv [], .int .i64 0, v] := hblk.grown hg1 (fun e => by injection e with e; omega)
    have h3 := h1.below hb3 h1.lt
    have h4 : Blk w4 go 27 #[.int .i64 k, sv [], .int .i64 0, v] := h3.grown hg4 (fun e => by have := (hlt go e.symm).1; omega)
    exact h4.set_ 3 v'
  · exact hO4.far (fun e => by have := (hO4.lt _ e).1; simp at this; omega) _
  · refine RLs.append ?_ (RLs.one ?_)
    · refine RLs.mono ?_ (RLs.keep (S := fun b => B ≤ b ∧ b < wr.heap.size ∧ some b ≠ v.ownBlock) ?_ hrl)
      · intro b hb
        refine ⟨hb.1, by rw [World.setCell_size]; omega, fun e => ?_⟩
        rcases hat with h | h
        · exact hb.2.2 (e.trans h)
        · rw [h] at e; injection e with e; have := hb.2.1; omega
      · intro p hp
        rw [hcell p hp.1 (Nat.lt_of_lt_of_le hp.2.1 hsz) hp.2.2, hcw p hp.2.1 (by have := hp.1; omega)]
    · refine RV.mono ?_ (RV.keep (S := New wr w1) ?_ hrv)
      · intro b hb
        refine ⟨Nat.le_trans hBw hb.1, by rw [World.setCell_size]; have := hb.2; omega, fun e => ?_⟩
        rcases hat with h | h
        · exact hnv b hb.1 (e.trans h)
        · rw [h] at e; injection e with e; have := hb.2; omega
      · intro p hp
        exact hcell p (Nat.le_trans hBw hp.1) hp.2 (hnv _ hp.1)
  · have hg := hrst.lt
    have h3 : Rst w3 g n c A l q' := hrst.below hb3 hg
    have h4 : Rst w4 g n c A l q' := by
      refine ⟨h3.1.grown hg4 (fun e => by have := (hlt g e.symm).1; omega), h3.2.1.keep (fun p hp => World.cell?_of_block (hg4.block _ (by have := h3.lt; omega) (fun e => by have := (hlt _ e.symm).1; omega))), h3.2.2⟩
    exact ⟨h4.1.far (by simp; omega) _, h4.2.1.setCell (by simp; omega) _, h4.2.2⟩
end Go.Proofs.YtjdnpgdedbegfaaDoor
