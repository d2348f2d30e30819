/- The walk of the law RespBack, its first half: two replies, each of texts of one line. -/
import Derived.Test.YtjdnpgdedbegfaaDoorRtpB
namespace Go.Proofs.YtjdnpgdedbegfaaDoor
open Go.RowKit Go.Shelf
set_option linter.unusedVariables false

theorem norm_mk (k : Int) (s : List UInt8) (n : Int) (l : List Rep) : Rep.norm (.mk k s n l) = .mk k (if txt k then s else []) (if k = 3 then n else 0) (if prt k then Rep.norms l else []) := by rw [Rep.norm]
mutual
theorem norm_norm : ∀ r : Rep, r.norm.norm = r.norm
  | .mk k s n l => by
    have ih := norms_norms l
    rw [norm_mk, norm_mk]
    have a : (if txt k = true then (if txt k = true then s else []) else []) = if txt k = true then s else [] := by split <;> rfl
    have b : (if k = 3 then (if k = 3 then n else 0) else 0) = if k = 3 then n else 0 := by split <;> rfl
    have c : (if prt k = true then Rep.norms (if prt k = true then Rep.norms l else []) else []) = if prt k = true then Rep.norms l else [] := by
      split
      · exact ih
      · rfl
    rw [a, b, c]
theorem norms_norms : ∀ l : List Rep, Rep.norms (Rep.norms l) = Rep.norms l
  | [] => rfl
  | r :: t => by
    have h1 : Rep.norms (r :: t) = r.norm :: Rep.norms t := by rw [Rep.norms]
    have h2 : Rep.norms (r.norm :: Rep.norms t) = r.norm.norm :: Rep.norms (Rep.norms t) := by rw [Rep.norms]
    rw [h1, h2, norm_norm r, norms_norms t]
end
theorem back_read (b : Bool) {r : Rep} (hM : okM 6 r) (hR : okR 7 r) : Rsp.rd 33 (enc b r).length (enc b r) = some (red b r, []) := by
  have := rd_enc b 33 r (enc b r).length [] (okR_mono 7 33 r (by omega) hR) (Nat.le_refl _) (enc_fits b (Nat.le_refl 6) hM)
  rwa [List.append_nil] at this
theorem back_all {x y : Rep} (hx : okM 6 x) (hx' : okR 7 x) (hy : okM 6 y) (hy' : okR 7 y) {acc : List Rep} {q : Nat} (h : AllOf (enc true x ++ enc false y) acc q) : acc = [x.norm, y.flat] ∧ q = (enc true x).length + (enc false y).length := by
  have h1 := enc_size true 6 x hx
  have h2 := enc_size false 6 y hy
  have h3 : sz 6 ≤ 500000 := by decide
  obtain ⟨l', k', rfl, rfl, h'⟩ := all_step h (okR_mono 7 33 x (by omega) hx') (by omega)
  rw [← List.append_nil (enc false y)] at h'
  obtain ⟨l'', k'', rfl, rfl, h''⟩ := all_step h' (okR_mono 7 33 y (by omega) hy') (by simp; omega)
  obtain ⟨rfl, rfl⟩ := all_none h'' (rd_nil _ _)
  exact ⟨rfl, rfl⟩
theorem decode_back (b : Bool) {r : Rep} (hM : okM 6 r) (hR : okR 7 r) (v : Value) (w : World) (h : BSl w v (enc b r)) (q : Rep) (hq : red b r = q) (L : Nat) (hL : (enc b r).length = L) :
    Calls Tryd.prog 10 #[v] w fun e w' => (∃ E f, e = .returned (.tuple #[.agg #[.int .i64 q.k, sv q.s, .int .i64 q.n, .slice E q.l.length f], .int .i64 (L : Nat), .int .i64 0]) ∧ RV w' (New w w') q [.int .i64 q.k, sv q.s, .int .i64 q.n, .slice E q.l.length f]) ∧ Below w.heap.size w w' := by
  refine (decode_any v (enc b r) w h (enc_fits b (Nat.le_refl 6) hM)).mono fun e w' ⟨h1, h2⟩ => ⟨?_, h2⟩
  rw [back_read b hM hR, hq] at h1
  subst hL
  exact h1
theorem blk_put4_far {w : World} {g k : Nat} {t : TypeId} {cs : Array Value} (h : Blk w g t cs) (hne : g ≠ k) (a b c d : Value) : Blk (put4 w k a b c d) g t cs :=
  (((h.far (p := ⟨k, 0, none⟩) hne a).far (p := ⟨k, 1, none⟩) hne b).far (p := ⟨k, 2, none⟩) hne c).far (p := ⟨k, 3, none⟩) hne d
theorem rv_put4 {w : World} {S : Nat → Prop} {r : Rep} {cs : List Value} (h : RV w S r cs) {g : Nat} (hS : ∀ b, S b → b ≠ g) (a b c d : Value) : RV (put4 w g a b c d) S r cs :=
  RV.keep (fun p hp => put4_cell _ _ _ _ _ _ p (hS _ hp)) h
/-- Behind the assignment: the two blocks, the two replies. -/
theorem back_world {w1 w2 W w3 w4 : World} {b5 b7 : Nat} {x y x0 y0 : Rep} {xc0 yc0 : Array Value} {E2 E3 : Option Addr} {f2 f3 : Nat} {xo0 xo1 xo2 xo3 yo0 yo1 yo2 yo3 : Value}
    (h5 : Blk w4 b5 27 #[xo0, xo1, xo2, xo3]) (h7 : Blk w4 b7 27 #[yo0, yo1, yo2, yo3]) (hne : b5 ≠ b7) (hb5 : b5 < W.heap.size) (hb7 : b7 < W.heap.size) (hS3 : Below W.heap.size W w3) (hb6 : Below w3.heap.size w3 w4)
    (hvx : RV w3 (New W.drew w3) x [.int .i64 x.k, sv x.s, .int .i64 x.n, .slice E2 x.l.length f2]) (hvy : RV w4 (New w3 w4) y [.int .i64 y.k, sv y.s, .int .i64 y.n, .slice E3 y.l.length f3]) :
    ∃ V, put4 (put4 w4 b5 (.int .i64 x.k) (sv x.s) (.int .i64 x.n) (.slice E2 x.l.length f2)) b7 (.int .i64 y.k) (sv y.s) (.int .i64 y.n) (.slice E3 y.l.length f3) = V ∧
      Blk V b5 27 #[.int .i64 x.k, sv x.s, .int .i64 x.n, .slice E2 x.l.length f2] ∧ Blk V b7 27 #[.int .i64 y.k, sv y.s, .int .i64 y.n, .slice E3 y.l.length f3] ∧
      Liv V x [.int .i64 x.k, sv x.s, .int .i64 x.n, .slice E2 x.l.length f2] ∧ Liv V y [.int .i64 y.k, sv y.s, .int .i64 y.n, .slice E3 y.l.length f3] := by
  have hd : W.drew.heap.size = W.heap.size := rfl
  have hs3 := hS3.size
  have hs4 := hb6.size
  refine ⟨_, rfl, blk_put4_far (h5.put4 _ _ _ _) hne _ _ _ _, (blk_put4_far h7 hne.symm _ _ _ _).put4 _ _ _ _, ?_, ?_⟩
  · refine RV.mono (S := New W.drew w3) (fun b hb => ?_) (rv_put4 (rv_put4 (RV.keep (fun p hp => hb6.cell hp.2) hvx) (fun b hb => by have := hb.1; omega) _ _ _ _) (fun b hb => by have := hb.1; omega) _ _ _ _)
    rw [put4_size, put4_size]; have := hb.2; omega
  · refine RV.mono (S := New w3 w4) (fun b hb => ?_) (rv_put4 (rv_put4 hvy (fun b hb => by have := hb.1; omega) _ _ _ _) (fun b hb => by have := hb.1; omega) _ _ _ _)
    rw [put4_size, put4_size]; exact hb.2
end Go.Proofs.YtjdnpgdedbegfaaDoor
