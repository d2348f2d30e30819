/- The walk of the law ReplyOrders (tallboylaw17). -/
import Derived.Test.YtjefpnhffdeekaaRplV
import Derived.Test.YtjefpnhffdeekaaRplX
import Derived.Test.YtjefpnhffdeekaaRplD
namespace Go.Proofs.Ytjefpnhffdeekaa
open Go.RowKit
set_option linter.unusedVariables false

set_option maxRecDepth 100000 in
set_option maxHeartbeats 8000000 in
theorem replyOrders_walk (v : Value) (m : Nat) (w : World) (hv : ArgN w v m) :
    Calls Try.prog 3 #[v] w fun e w' => e = .returned (.bool true) ∧ Below w.heap.size w w' := by
  obtain ⟨A0, c0, rfl, hm, _⟩ := id hv
  have HM := Lib.hid (made_any 6 (by decide) w (.slice A0 m c0) m 0 hv (Nat.zero_le _))
  rw [show (6 : Int) - ((6 : Nat) : Int) = 0 from rfl, show (((0 : Nat) : Int)) = 0 from rfl] at HM
  clear hv hm
  go_enter Try.func3, Try.ntmps3
  go_wp2_with fail
  refine HM.out.mono ?_
  rintro e w1 ⟨⟨r, E, f, q, rfl, hok, hrv, hq⟩, hb1⟩
  have okx := okM_okS 6 _ hok
  have oky := okS_tn okx
  have oks := okS_psrt okx
  have hx0 := Liv.of_new hrv
  have hW1 : Below w1.heap.size w1 (w1.alloc (.cells #[.int .i64 r.k, sv r.s, .int .i64 r.n, .slice E r.l.length f] 25)) := (Below.refl _ _).alloc (Nat.le_refl _) _
  have HX1 := Lib.hid (Blk.new w1 25 #[.int .i64 r.k, sv r.s, .int .i64 r.n, .slice E r.l.length f])
  have HLX := Lib.hid (Liv.below hx0 hW1)
  have HT := Lib.hid (turned_any okx (Liv.below hx0 hW1))
  have HB1 := Lib.hid (hb1.trans (hW1.mono hb1.size))
  have hG1 : w1.heap.size < ((w1.alloc (.cells #[.int .i64 r.k, sv r.s, .int .i64 r.n, .slice E r.l.length f] 25))).heap.size := by simp
  have HGB := Lib.hid hb1.size
  clear hok hrv hq hx0 hW1 hb1 HM
  go_wp2_with fail
  refine HT.out.mono ?_
  rintro e w2 ⟨⟨E2, f2, rfl, hrv2⟩, hb2⟩
  have hx2 := HX1.out.below hb2 hG1
  have hy0 := Liv.of_new hrv2
  have hW2 : Below w2.heap.size w2 (w2.alloc (.cells #[.int .i64 (tn r).k, sv (tn r).s, .int .i64 (tn r).n, .slice E2 (tn r).l.length f2] 25)) := (Below.refl _ _).alloc (Nat.le_refl _) _
  have HLX2 := Lib.hid (Liv.below (Liv.below HLX.out hb2) hW2)
  have HLY2 := Lib.hid (Liv.below hy0 hW2)
  have HX2 := Lib.hid (hx2.alloc (.cells #[.int .i64 (tn r).k, sv (tn r).s, .int .i64 (tn r).n, .slice E2 (tn r).l.length f2] 25))
  have HY2 := Lib.hid (Blk.new w2 25 #[.int .i64 (tn r).k, sv (tn r).s, .int .i64 (tn r).n, .slice E2 (tn r).l.length f2])
  have HB2 := Lib.hid (HB1.out.trans ((below_trans hb2 hW2).mono HB1.out.size))
  have hG2 : w2.heap.size < ((w2.alloc (.cells #[.int .i64 (tn r).k, sv (tn r).s, .int .i64 (tn r).n, .slice E2 (tn r).l.length f2] 25))).heap.size := by simp
  have hx4 := HX2.out.x4
  have HS := Lib.hid (sorted_any okx HLX2.out)
  have hG12 : w1.heap.size < w2.heap.size := Nat.lt_of_lt_of_le hG1 hb2.size
  clear hrv2 hx2 hy0 hW2 hb2 HT HLX HX1 HB1
  go_wp2_with fail
  refine HS.out.mono ?_
  rintro e w3 ⟨⟨E3, f3, rfl, hrv3⟩, hb3⟩
  have hG3 := hb3.size
  have hW3 : Below w3.heap.size w3 (w3.alloc (.cells #[.int .i64 (psrt r).k, sv (psrt r).s, .int .i64 (psrt r).n, .slice E3 (psrt r).l.length f3] 25)) := (Below.refl _ _).alloc (Nat.le_refl _) _
  have hb4 := below_trans hb3 hW3
  have hbx := (HX2.out.below hb3 (Nat.lt_trans hG12 hG2)).alloc (.cells #[.int .i64 (psrt r).k, sv (psrt r).s, .int .i64 (psrt r).n, .slice E3 (psrt r).l.length f3] 25)
  have hby := (HY2.out.below hb3 hG2).alloc (.cells #[.int .i64 (psrt r).k, sv (psrt r).s, .int .i64 (psrt r).n, .slice E3 (psrt r).l.length f3] 25)
  have hbs := Blk.new w3 25 #[.int .i64 (psrt r).k, sv (psrt r).s, .int .i64 (psrt r).n, .slice E3 (psrt r).l.length f3]
  have hlx := Liv.below HLX2.out hb4
  have hly := Liv.below HLY2.out hb4
  have hls := Liv.below (Liv.of_new hrv3) hW3
  have HBE := Lib.hid (HB2.out.trans (hb4.mono HB2.out.size))
  clear hx4 hG1 hG12 hG2 hG3 hrv3 hb3 hW3 hb4 HB2 HLX2 HLY2 HX2 HY2 HS
  go_wp2_with fail
  generalize w1.heap.size = G1 at *
  generalize w2.heap.size = G2 at *
  obtain ⟨G3, hG3⟩ : ∃ G, w3.heap.size = G := ⟨_, rfl⟩
  rw [hG3] at hbs ⊢
  clear hG3
  generalize hW : (w3.alloc (.cells #[.int .i64 (psrt r).k, sv (psrt r).s, .int .i64 (psrt r).n, .slice E3 (psrt r).l.length f3] 25)) = W at *
  clear hW
  have HSL := Lib.hid (fun w' (hb : Below W.heap.size W w') => hls.below hb)
  have HSAM : Hid (∀ (w2 : World) (c1 c2 : List Value), Liv w2 (psrt r) c1 → Liv w2 (psrt r) c2 → Calls Try.prog 8 #[.agg c1.toArray, .agg c2.toArray] w2 fun e w' => e = .returned (.bool true) ∧ Below w2.heap.size w2 w') := Lib.hid (fun w2 c1 c2 h1 h2 => (rsame_any h1 h2).mono (fun e w' h => ⟨h.1.trans (by rw [ord_self17]; rfl), h.2⟩))
  have HA1 : Hid (∀ w', Below W.heap.size W w' → Calls Try.prog 7 #[.agg #[.int .i64 r.k, sv r.s, .int .i64 r.n, .slice E r.l.length f], .agg #[.int .i64 (tn r).k, sv (tn r).s, .int .i64 (tn r).n, .slice E2 (tn r).l.length f2]] w' fun e w2 => e = .returned (.bool true) ∧ Below w'.heap.size w' w2) := Lib.hid (fun w' hb => (alike_any (hlx.below hb) (hly.below hb) okx oky).mono (fun e w' h => ⟨h.1.trans (by rw [psrt_tn, ord_self17]; rfl), h.2⟩))
  have HA2 : Hid (∀ w', Below W.heap.size W w' → Calls Try.prog 7 #[.agg #[.int .i64 (tn r).k, sv (tn r).s, .int .i64 (tn r).n, .slice E2 (tn r).l.length f2], .agg #[.int .i64 r.k, sv r.s, .int .i64 r.n, .slice E r.l.length f]] w' fun e w2 => e = .returned (.bool true) ∧ Below w'.heap.size w' w2) := Lib.hid (fun w' hb => (alike_any (hly.below hb) (hlx.below hb) oky okx).mono (fun e w' h => ⟨h.1.trans (by rw [psrt_tn, ord_self17]; rfl), h.2⟩))
  have HA3 : Hid (∀ w', Below W.heap.size W w' → Calls Try.prog 7 #[.agg #[.int .i64 (psrt r).k, sv (psrt r).s, .int .i64 (psrt r).n, .slice E3 (psrt r).l.length f3], .agg #[.int .i64 r.k, sv r.s, .int .i64 r.n, .slice E r.l.length f]] w' fun e w2 => e = .returned (.bool true) ∧ Below w'.heap.size w' w2) := Lib.hid (fun w' hb => (alike_any (hls.below hb) (hlx.below hb) oks okx).mono (fun e w' h => ⟨h.1.trans (by rw [psrt_psrt, ord_self17]; rfl), h.2⟩))
  have HSY : Hid (∀ w', Below W.heap.size W w' → Calls Try.prog 6 #[.agg #[.int .i64 (tn r).k, sv (tn r).s, .int .i64 (tn r).n, .slice E2 (tn r).l.length f2]] w' fun e w2 => FRet w' w2 e (psrt r) ∧ Below w'.heap.size w' w2) := Lib.hid (fun w' hb => by have := sorted_any oky (hly.below hb); rwa [psrt_tn] at this)
  have HSS : Hid (∀ w', Below W.heap.size W w' → Calls Try.prog 6 #[.agg #[.int .i64 (psrt r).k, sv (psrt r).s, .int .i64 (psrt r).n, .slice E3 (psrt r).l.length f3]] w' fun e w2 => FRet w' w2 e (psrt r) ∧ Below w'.heap.size w' w2) := Lib.hid (fun w' hb => by have := sorted_any oks (hls.below hb); rwa [psrt_psrt] at this)
  have HKN := Lib.hid (fun w => known17_any w)
  have HK := Lib.hid (fun w' (hb : Below W.heap.size W w') => (show Below W.heap.size W w' ∧ w'.cell? ⟨G1, 0, none⟩ = some (.int .i64 r.k) ∧ w'.cell? ⟨G1, 1, none⟩ = some (sv r.s) ∧ w'.cell? ⟨G1, 2, none⟩ = some (.int .i64 r.n) ∧ w'.cell? ⟨G1, 3, none⟩ = some (.slice E r.l.length f) ∧ w'.cell? ⟨G2, 0, none⟩ = some (.int .i64 (tn r).k) ∧ w'.cell? ⟨G2, 1, none⟩ = some (sv (tn r).s) ∧ w'.cell? ⟨G2, 2, none⟩ = some (.int .i64 (tn r).n) ∧ w'.cell? ⟨G2, 3, none⟩ = some (.slice E2 (tn r).l.length f2) ∧ w'.cell? ⟨G3, 0, none⟩ = some (.int .i64 (psrt r).k) ∧ w'.cell? ⟨G3, 1, none⟩ = some (sv (psrt r).s) ∧ w'.cell? ⟨G3, 2, none⟩ = some (.int .i64 (psrt r).n) ∧ w'.cell? ⟨G3, 3, none⟩ = some (.slice E3 (psrt r).l.length f3) from
    ⟨hb, (hbx.below hb hbx.lt).cell 0, (hbx.below hb hbx.lt).cell 1, (hbx.below hb hbx.lt).cell 2, (hbx.below hb hbx.lt).cell 3, (hby.below hb hby.lt).cell 0, (hby.below hb hby.lt).cell 1, (hby.below hb hby.lt).cell 2, (hby.below hb hby.lt).cell 3, (hbs.below hb hbs.lt).cell 0, (hbs.below hb hbs.lt).cell 1, (hbs.below hb hbs.lt).cell 2, (hbs.below hb hbs.lt).cell 3⟩))
  have hS0 : Below W.heap.size W W := Below.refl _ _
  clear hlx hly hls hbx hby hbs okx oky oks
  go_region_held (fun w' => Below W.heap.size W w' ∧ w'.cell? ⟨G1, 0, none⟩ = some (.int .i64 r.k) ∧ w'.cell? ⟨G1, 1, none⟩ = some (sv r.s) ∧ w'.cell? ⟨G1, 2, none⟩ = some (.int .i64 r.n) ∧ w'.cell? ⟨G1, 3, none⟩ = some (.slice E r.l.length f) ∧ w'.cell? ⟨G2, 0, none⟩ = some (.int .i64 (tn r).k) ∧ w'.cell? ⟨G2, 1, none⟩ = some (sv (tn r).s) ∧ w'.cell? ⟨G2, 2, none⟩ = some (.int .i64 (tn r).n) ∧ w'.cell? ⟨G2, 3, none⟩ = some (.slice E2 (tn r).l.length f2) ∧ w'.cell? ⟨G3, 0, none⟩ = some (.int .i64 (psrt r).k) ∧ w'.cell? ⟨G3, 1, none⟩ = some (sv (psrt r).s) ∧ w'.cell? ⟨G3, 2, none⟩ = some (.int .i64 (psrt r).n) ∧ w'.cell? ⟨G3, 3, none⟩ = some (.slice E3 (psrt r).l.length f3))
    (first | exact HK.out _ hS0 | exact HK.out _ hS0.drew)
    (first
      | (go_at_call 7; refine (HA1.out _ (by first | exact hS0 | exact hS0.drew)).mono ?_; rintro e v ⟨rfl, hb⟩; have hS0 := below_trans (by first | exact hS0 | exact hS0.drew) hb; clear HA1; clear hb)
      | (go_at_call 7; refine (HA2.out _ (by first | exact hS0 | exact hS0.drew)).mono ?_; rintro e v ⟨rfl, hb⟩; have hS0 := below_trans (by first | exact hS0 | exact hS0.drew) hb; clear HA2; clear hb)
      | (go_at_call 6; refine (HSY.out _ (by first | exact hS0 | exact hS0.drew)).mono ?_; rintro e v ⟨⟨E4, f4, rfl, hv4⟩, hb⟩; have hS0 := below_trans (by first | exact hS0 | exact hS0.drew) hb; have HC := Lib.hid (fun (v8 : World) (h8 : Below v.heap.size v v8) => HSAM.out v8 _ _ (HSL.out _ (below_trans hS0 h8)) (Liv.below (Liv.of_new hv4) h8)); have hT0 := Below.refl v.heap.size v; clear hb HSY hv4)
      | (go_at_call 8; refine (HC.out _ (by first | exact hT0 | exact hT0.drew)).mono ?_; rintro e v9 ⟨rfl, hb⟩; have hS0 := below_trans (by first | exact hS0 | exact hS0.drew) hb; clear hb HC hT0)
      | (go_at_call 6; refine (HSS.out _ (by first | exact hS0 | exact hS0.drew)).mono ?_; rintro e v ⟨⟨E5, f5, rfl, hv5⟩, hb⟩; have hS0 := below_trans (by first | exact hS0 | exact hS0.drew) hb; have HC2 := Lib.hid (fun (v8 : World) (h8 : Below v.heap.size v v8) => HSAM.out v8 _ _ (HSL.out _ (below_trans hS0 h8)) (Liv.below (Liv.of_new hv5) h8)); have hT1 := Below.refl v.heap.size v; clear hb HSS hv5)
      | (go_at_call 8; refine (HC2.out _ (by first | exact hT1 | exact hT1.drew)).mono ?_; rintro e v9 ⟨rfl, hb⟩; have hS0 := below_trans (by first | exact hS0 | exact hS0.drew) hb; clear hb HC2 hT1)
      | (go_at_call 7; refine (HA3.out _ (by first | exact hS0 | exact hS0.drew)).mono ?_; rintro e v ⟨rfl, hb⟩; have hS0 := below_trans (by first | exact hS0 | exact hS0.drew) hb; clear HA3; clear hb)
      | (go_at_call 9; refine (HKN.out _).mono ?_; rintro e v ⟨rfl, hb⟩; have hS0 := below_trans (by first | exact hS0 | exact hS0.drew) hb; clear hb))
  go_wp2_with fail
  go_ret
  exact ⟨rfl, HBE.out.trans (hS0.mono HBE.out.size)⟩
end Go.Proofs.Ytjefpnhffdeekaa
