/- The walk of the law's writes (tallboylaw18). -/
import Derived.Test.YtjdnpgdedbegfaaDoorRtpN
import Derived.Test.YtjdnpgdedbegfaaDoorRspX
namespace Go.Proofs.YtjdnpgdedbegfaaDoor
open Go.RowKit Go.Shelf
set_option linter.unusedVariables false

set_option maxRecDepth 100000 in
set_option maxHeartbeats 16000000 in
theorem writes_any (d : Nat) (r : Rep) (E : Option Addr) (f : Nat) (w : World) (hok : okF d r) (hr : Liv w r [.int .i64 r.k, sv r.s, .int .i64 r.n, .slice E r.l.length f]) (hmy : My w) (hlen : ∀ t, (enc t r).length ≤ 1048576) :
    Calls Tryd.prog 18 #[.agg #[.int .i64 r.k, sv r.s, .int .i64 r.n, .slice E r.l.length f]] w fun e w' => e = .returned (.bool true) ∧ Below w.heap.size w w' := by
  have hb1 : Below w.heap.size w (w.alloc (.cells #[.int .i64 r.k, sv r.s, .int .i64 r.n, .slice E r.l.length f] 27)) := (Below.refl _ _).alloc (Nat.le_refl _) _
  have HB1 := Lib.hid hb1
  have HX := Lib.hid (Blk.new w 27 #[.int .i64 r.k, sv r.s, .int .i64 r.n, .slice E r.l.length f])
  have HR := Lib.hid hr
  have HMy := Lib.hid hmy
  have HLEN := Lib.hid hlen
  clear hb1 hr hmy hlen
  go_enter Tryd.func18, Tryd.ntmps18
  go_wp2_with fail
  go_loopw [3] (fun x wr => ∃ m : Nat, 1 ≤ m ∧ m ≤ 5 ∧ x = .int .i64 (m : Nat) ∧ Blk wr w.heap.size 27 #[.int .i64 r.k, sv r.s, .int .i64 r.n, .slice E r.l.length f] ∧ Below w.heap.size w wr) (fun x _ => 5 - (intOf x).toNat)
  case atStart => exact ⟨1, by omega, by omega, rfl, HX.out, HB1.out⟩
  case round =>
    obtain ⟨m, hm1, hm5, rfl, hbx, hbel⟩ := hrel
    have hlx := HR.out.below hbel
    have hmw := HMy.out.below_ hbel
    have HBL := Lib.hid hbel
    have HK := Lib.hid (fun w' (hb : Below wr.heap.size wr w') => (hbx.below hb hbx.lt).x4)
    have HBX := Lib.hid hbx
    clear hbel
    have hS0 : Below wr.heap.size wr wr := Below.refl _ _
    by_cases hlt : m < 5
    · obtain ⟨t, ht⟩ : ∃ t, (((m : Nat) : Int) == 3) = t := ⟨_, rfl⟩
      have hl := HLEN.out t
      have he1 := fun (w' : World) (hb : Below wr.heap.size wr w') => encode_any r (m : Nat) t w' [.int .i64 r.k, sv r.s, .int .i64 r.n, .slice E r.l.length f] (hlx.below hb) (hmw.below_ hb) ht (by unfold fits; omega) hl
      have he2 := fun (w' : World) (hb : Below wr.heap.size wr w') => ref_encode _ r (Nat.le_refl _) t (m : Nat) w' [.int .i64 r.k, sv r.s, .int .i64 r.n, .slice E r.l.length f] (hlx.below hb) ht (by unfold fits; omega) hl
      obtain ⟨X, hX⟩ : ∃ X, enc t r = X := ⟨_, rfl⟩
      rw [hX] at he1 he2
      have HE1 := Lib.hid he1
      have HE2 := Lib.hid he2
      have i1 : (m : Int) < 5 := by omega
      clear he1 he2 hX hl ht hlx hmw hbx
      go_wp2_with fail
      go_region_held (fun w' => w'.cell? ⟨w.heap.size, 0, none⟩ = some (.int .i64 r.k) ∧ w'.cell? ⟨w.heap.size, 1, none⟩ = some (sv r.s) ∧ w'.cell? ⟨w.heap.size, 2, none⟩ = some (.int .i64 r.n) ∧ w'.cell? ⟨w.heap.size, 3, none⟩ = some (.slice E r.l.length f)) (first | exact HK.out _ hS0 | exact HK.out _ hS0.drew)
        (first
          | (go_at_call 9; refine (HE1.out _ (by first | exact hS0 | exact hS0.drew)).mono ?_; rintro e w5 ⟨v5, rfl, hO5, hb7⟩; have hS0 := below_trans (by first | exact hS0 | exact hS0.drew) hb7; have hc5 := hO5.str; have HO5 := Lib.hid hO5; clear hO5 hb7)
          | (go_at_call 19; refine (HE2.out _ (by first | exact hS0 | exact hS0.drew)).mono ?_; rintro e w6 ⟨rfl, hb8⟩; have hS0 := below_trans hS0 hb8; have hc5' := (HO5.out.keep_ hb8).str; clear hb8))
      all_goals
        go_wp2_with fail
        go_roundw
        case rel => exact ⟨m + 1, by omega, by omega, by first | rfl | go_num, HBX.out.below hS0 HBX.out.lt, HBL.out.trans (hS0.mono HBL.out.size)⟩
        case measure => simp [intOf]; omega
    · have i1 : ¬ (m : Int) < 5 := by omega
      have HF1 := Lib.hid (fun (w' : World) (hb : Below wr.heap.size wr w') => flatw_any _ r (Nat.le_refl _) d w' [.int .i64 r.k, sv r.s, .int .i64 r.n, .slice E r.l.length f] hok (hlx.below hb) (hmw.below_ hb))
      have HF2 := Lib.hid (fun (w' : World) (hb : Below wr.heap.size wr w') => rflat_any (w := w') hok (hlx.below hb))
      have HSA : Hid (∀ (w' : World) (c1 c2 : List Value), Liv w' r.flat c1 → Liv w' r.flat c2 → Calls Tryd.prog 17 #[.agg c1.toArray, .agg c2.toArray] w' fun e w2 => e = .returned (.bool true) ∧ Below w'.heap.size w' w2) := Lib.hid (fun w' c1 c2 h1 h2 => same_true h1 h2 rfl)
      clear hlx hmw hbx
      go_wp2_with fail
      go_region_held (fun w' => w'.cell? ⟨w.heap.size, 0, none⟩ = some (.int .i64 r.k) ∧ w'.cell? ⟨w.heap.size, 1, none⟩ = some (sv r.s) ∧ w'.cell? ⟨w.heap.size, 2, none⟩ = some (.int .i64 r.n) ∧ w'.cell? ⟨w.heap.size, 3, none⟩ = some (.slice E r.l.length f)) (first | exact HK.out _ hS0 | exact HK.out _ hS0.drew)
        (first
          | (go_at_call 16; refine (HF1.out _ (by first | exact hS0 | exact hS0.drew)).mono ?_; rintro e w3 ⟨⟨E3, f3, rfl, hv3⟩, hb5⟩; have hS0 := below_trans (by first | exact hS0 | exact hS0.drew) hb5; have HL3 := Lib.hid hv3.liv; clear hv3 hb5)
          | (go_at_call 26; refine (HF2.out _ (by first | exact hS0 | exact hS0.drew)).mono ?_; rintro e w4 ⟨⟨E4, f4, rfl, hv4⟩, hb6⟩; have hS0 := below_trans (by first | exact hS0 | exact hS0.drew) hb6; have HC := Lib.hid (HSA.out w4 _ _ (HL3.out.below hb6) hv4.liv); clear hv4 hb6)
          | (go_at_call 17; refine HC.out.mono ?_; rintro e w7 ⟨rfl, hb9⟩; have hS0 := below_trans hS0 hb9; clear hb9))
      all_goals
        go_wp2_with fail
        go_ret
        exact ⟨rfl, HBL.out.trans (hS0.mono HBL.out.size)⟩
end Go.Proofs.YtjdnpgdedbegfaaDoor
