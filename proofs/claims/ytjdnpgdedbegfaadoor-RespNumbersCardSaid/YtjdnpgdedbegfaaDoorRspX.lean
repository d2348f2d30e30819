/- The walk of the law RespFlat. -/
import Derived.Test.YtjdnpgdedbegfaaDoorRspW
namespace Go.Proofs.YtjdnpgdedbegfaaDoor
open Go.RowKit Go.Shelf
set_option linter.unusedVariables false

theorem sz6 : sz 6 ≤ 1048576 := by decide
theorem enc_fits (b : Bool) {d : Nat} {r : Rep} (hd : d ≤ 6) (h : okM d r) : (enc b r).length ≤ 1048576 := Nat.le_trans (enc_size b d r h) (Nat.le_trans (sz_le d 6 hd) sz6)
theorem OB.keep_ {w w' : World} {B e : Nat} {v : Value} {l : List UInt8} (h : OB w B e v l) (hb : Below w.heap.size w w') : OB w' B e v l := Own.below_ h hb
theorem RV.liv {w w' : World} {r : Rep} {cs : List Value} (h : RV w' (New w w') r cs) : Liv w' r cs := RV.mono (fun b hb => hb.2) h

set_option maxRecDepth 100000 in
set_option maxHeartbeats 8000000 in
theorem respFlat_walk (v : Value) (m : Nat) (w : World) (hv : ArgN w v m) (hmy : My w) :
    Calls Tryd.prog 5 #[v] w fun e w' => e = .returned (.bool true) ∧ Below w.heap.size w w' := by
  have hM := made_any 6 (by omega) w v m 0 hv (Nat.zero_le _)
  rw [show (6 - ((6 : Nat) : Int)) = 0 by omega] at hM
  have HMy := Lib.hid hmy
  obtain ⟨A, c, rfl, _⟩ := hv
  clear hmy
  go_enter Tryd.func5, Tryd.ntmps5
  go_wp2_with fail
  refine hM.mono ?_
  rintro e w1 ⟨⟨x, E, f, q, rfl, hokx, hvx, hqm⟩, hb1⟩
  have hb2 := hb1.alloc hb1.size (.cells #[.int .i64 x.k, sv x.s, .int .i64 x.n, .slice E x.l.length f] 27)
  have hlx : Liv (w1.alloc (.cells #[.int .i64 x.k, sv x.s, .int .i64 x.n, .slice E x.l.length f] 27)) x [.int .i64 x.k, sv x.s, .int .i64 x.n, .slice E x.l.length f] := hvx.liv.below ((Below.refl _ _).alloc (Nat.le_refl _) _)
  have hBx := Blk.new w1 27 #[.int .i64 x.k, sv x.s, .int .i64 x.n, .slice E x.l.length f]
  have hF := flat_any _ x (Nat.le_refl _) 6 _ _ hokx hlx (HMy.out.below_ hb2)
  have Hb2 := Lib.hid hb2
  have Hlx := Lib.hid hlx
  have HBx := Lib.hid hBx
  clear hb2 hlx hBx hvx
  go_wp2_with fail
  refine hF.mono ?_
  rintro e w2 ⟨⟨E2, f2, rfl, hvf⟩, hb3⟩
  have hb4 := (Hb2.out.trans (hb3.mono Hb2.out.size)).alloc (Nat.le_trans Hb2.out.size hb3.size) (.cells #[.int .i64 x.flat.k, sv x.flat.s, .int .i64 x.flat.n, .slice E2 x.flat.l.length f2] 27)
  have hB3 := (HBx.out.below hb3 HBx.out.lt).alloc (.cells #[.int .i64 x.flat.k, sv x.flat.s, .int .i64 x.flat.n, .slice E2 x.flat.l.length f2] 27)
  have hB5 := Blk.new w2 27 #[.int .i64 x.flat.k, sv x.flat.s, .int .i64 x.flat.n, .slice E2 x.flat.l.length f2]
  have hlx := (Hlx.out.below hb3).below ((Below.refl _ _).alloc (Nat.le_refl _) (.cells #[.int .i64 x.flat.k, sv x.flat.s, .int .i64 x.flat.n, .slice E2 x.flat.l.length f2] 27))
  have hlf := hvf.liv.below ((Below.refl _ _).alloc (Nat.le_refl _) (.cells #[.int .i64 x.flat.k, sv x.flat.s, .int .i64 x.flat.n, .slice E2 x.flat.l.length f2] 27))
  obtain ⟨W, hW⟩ : ∃ W, w2.alloc (.cells #[.int .i64 x.flat.k, sv x.flat.s, .int .i64 x.flat.n, .slice E2 x.flat.l.length f2] 27) = W := ⟨_, rfl⟩
  rw [hW] at hb4 hB3 hB5 hlx hlf
  have HK := Lib.hid (fun (w' : World) (hb : Below W.heap.size W w') => And.intro (hB3.below hb hB3.lt).x4 (hB5.below hb hB5.lt).x4)
  have HMW := Lib.hid (fun (w' : World) (hb : Below W.heap.size W w') => HMy.out.below_ (hb4.trans (hb.mono hb4.size)))
  have HF2 := Lib.hid (fun (w' : World) (hb : Below W.heap.size W w') => flat_any _ x.flat (Nat.le_refl _) 6 w' [.int .i64 x.flat.k, sv x.flat.s, .int .i64 x.flat.n, .slice E2 x.flat.l.length f2] (flat_okM 6 x hokx) (hlf.below hb) (HMW.out w' hb))
  have HS2 := Lib.hid (fun (w' : World) (hb : Below W.heap.size W w') (cs : List Value) (hl : Liv w' x.flat.flat cs) => same_true hl (hlf.below hb) (by rw [flat_flat]))
  have hX : enc false x.flat = enc false x := enc_flat x
  have hXl := enc_fits false (Nat.le_refl 6) hokx
  have he1 := fun (w' : World) (hb : Below W.heap.size W w') => encode_any x.flat 2 false w' [.int .i64 x.flat.k, sv x.flat.s, .int .i64 x.flat.n, .slice E2 x.flat.l.length f2] (hlf.below hb) (HMW.out w' hb) rfl (by unfold fits; omega) (by rw [hX]; exact hXl)
  have he2 := fun (w' : World) (hb : Below W.heap.size W w') => encode_any x 2 false w' [.int .i64 x.k, sv x.s, .int .i64 x.n, .slice E x.l.length f] (hlx.below hb) (HMW.out w' hb) rfl (by unfold fits; omega) hXl
  rw [hX] at he1
  obtain ⟨X, hXX⟩ : ∃ X, enc false x = X := ⟨_, rfl⟩
  rw [hXX] at he1 he2
  have HE1 := Lib.hid he1
  have HE2 := Lib.hid he2
  have HB4 := Lib.hid hb4
  have hS0 : Below W.heap.size W W := Below.refl _ _
  clear hb4 hB3 hB5 hlx hlf hX hXl he1 he2 hXX hvf
  go_wp2_with fail
  try rw [hW]
  clear hW
  go_region_held (fun w' => (w'.cell? ⟨w1.heap.size, 0, none⟩ = some (.int .i64 x.k) ∧ w'.cell? ⟨w1.heap.size, 1, none⟩ = some (sv x.s) ∧ w'.cell? ⟨w1.heap.size, 2, none⟩ = some (.int .i64 x.n) ∧ w'.cell? ⟨w1.heap.size, 3, none⟩ = some (.slice E x.l.length f)) ∧ (w'.cell? ⟨w2.heap.size, 0, none⟩ = some (.int .i64 x.flat.k) ∧ w'.cell? ⟨w2.heap.size, 1, none⟩ = some (sv x.flat.s) ∧ w'.cell? ⟨w2.heap.size, 2, none⟩ = some (.int .i64 x.flat.n) ∧ w'.cell? ⟨w2.heap.size, 3, none⟩ = some (.slice E2 x.flat.l.length f2))) (first | exact HK.out _ hS0 | exact HK.out _ hS0.drew)
    (first
      | (go_at_call 16; refine (HF2.out _ hS0.drew).mono ?_; rintro e w3 ⟨⟨E3, f3, rfl, hv3⟩, hb5⟩; have hS0 := below_trans hS0.drew hb5; have hl3 := hv3.liv)
      | (go_at_call 17; refine (HS2.out _ hS0 _ hl3).mono ?_; rintro e w4 ⟨rfl, hb6⟩; have hS0 := below_trans hS0 hb6)
      | (go_at_call 9; refine (HE1.out _ hS0).mono ?_; rintro e w5 ⟨v5, rfl, hO5, hb7⟩; have hS0 := below_trans hS0 hb7; have hc5 := hO5.str)
      | (go_at_call 9; refine (HE2.out _ hS0).mono ?_; rintro e w6 ⟨v6, rfl, hO6, hb8⟩; have hS0 := below_trans hS0 hb8; have hc6 := hO6.str; have hc5' := (hO5.keep_ hb8).str)
      | (go_at_call 11; refine (known_any _ (HMW.out _ hS0)).mono ?_; rintro e w7 ⟨rfl, hb9⟩; have hS0 := below_trans hS0 hb9))
  all_goals
    go_wp2_with fail
    go_ret
    exact ⟨rfl, HB4.out.trans (hS0.mono HB4.out.size)⟩
end Go.Proofs.YtjdnpgdedbegfaaDoor
