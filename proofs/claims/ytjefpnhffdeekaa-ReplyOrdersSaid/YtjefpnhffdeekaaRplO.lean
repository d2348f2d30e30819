/- The walks of reply's Sorted (any reply), Alike. -/
import Derived.Test.YtjefpnhffdeekaaRplN
namespace Go.Proofs.Ytjefpnhffdeekaa
open Go.RowKit
set_option linter.unusedVariables false

theorem sorted_all : ∀ (N : Nat) (r : Rep), SizeOf.sizeOf r ≤ N → SrtAt r := by
  intro N
  induction N with
  | zero => intro r h; cases r; simp at h
  | succ N ih =>
    intro r h
    obtain ⟨k, s, n, l⟩ := r
    exact sorted_step k s n l (fun q hq => ih q (by have := sizeOf_mem (k := k) (n := n) (s := s) hq; omega))
theorem sorted_any {r : Rep} {w : World} {cs : List Value} (hok : okS r) (h : Liv w r cs) :
    Calls Try.prog 6 #[.agg cs.toArray] w fun e w' => FRet w w' e (psrt r) ∧ Below w.heap.size w w' := sorted_all _ r (Nat.le_refl _) w cs hok h
theorem Liv.of_new {w w' : World} {r : Rep} {cs : List Value} (h : RV w' (New w w') r cs) : Liv w' r cs := h.mono (fun b hb => hb.2)

set_option maxRecDepth 100000 in
set_option maxHeartbeats 8000000 in
theorem alike_any {a b : Rep} {w : World} {cs cs' : List Value} (ha : Liv w a cs) (hb : Liv w b cs') (oa : okS a) (ob : okS b) :
    Calls Try.prog 7 #[.agg cs.toArray, .agg cs'.toArray] w fun e w' => e = .returned (.bool (ord (psrt a) (psrt b) == 0)) ∧ Below w.heap.size w w' := by
  obtain ⟨A, c, xs, rfl, hk1, hn1, hs1, hlc1, hcm1, hd1, hl1⟩ := ha.fields
  obtain ⟨A', c', xs', rfl, hk2, hn2, hs2, hlc2, hcm2, hd2, hl2⟩ := hb.fields
  have hb1 : Below w.heap.size w ((w.alloc (.cells #[.int .i64 a.k, sv a.s, .int .i64 a.n, .slice A a.l.length c] 25)).alloc (.cells #[.int .i64 b.k, sv b.s, .int .i64 b.n, .slice A' b.l.length c'] 25)) := ((Below.refl _ _).alloc (Nat.le_refl _) _).alloc (by simp) _
  have hy : Blk ((w.alloc (.cells #[.int .i64 a.k, sv a.s, .int .i64 a.n, .slice A a.l.length c] 25)).alloc (.cells #[.int .i64 b.k, sv b.s, .int .i64 b.n, .slice A' b.l.length c'] 25)) (w.heap.size + 1) 25 #[.int .i64 b.k, sv b.s, .int .i64 b.n, .slice A' b.l.length c'] := by
    have := Blk.new (w.alloc (.cells #[.int .i64 a.k, sv a.s, .int .i64 a.n, .slice A a.l.length c] 25)) 25 #[.int .i64 b.k, sv b.s, .int .i64 b.n, .slice A' b.l.length c']
    simpa using this
  have hx : Blk ((w.alloc (.cells #[.int .i64 a.k, sv a.s, .int .i64 a.n, .slice A a.l.length c] 25)).alloc (.cells #[.int .i64 b.k, sv b.s, .int .i64 b.n, .slice A' b.l.length c'] 25)) w.heap.size 25 #[.int .i64 a.k, sv a.s, .int .i64 a.n, .slice A a.l.length c] := (Blk.new w _ _).alloc _
  have hsa := ha.below hb1
  have hsb := hb.below hb1
  generalize hW : ((w.alloc (.cells #[.int .i64 a.k, sv a.s, .int .i64 a.n, .slice A a.l.length c] 25)).alloc (.cells #[.int .i64 b.k, sv b.s, .int .i64 b.n, .slice A' b.l.length c'] 25)) = W at hb1 hx hy hsa hsb
  have HW := Lib.hid hW
  have HB1 := Lib.hid hb1
  have HS1 := Lib.hid (fun w1 (hb2 : Below W.heap.size W w1) => sorted_any (w := w1) oa (hsa.below hb2))
  have HS2 := Lib.hid (fun w1 (hb2 : Below W.heap.size W w1) => sorted_any (w := w1) ob (hsb.below hb2))
  have HCMP : Hid (∀ (w2 : World) (c1 c2 : List Value), Liv w2 (psrt a) c1 → Liv w2 (psrt b) c2 → Calls Try.prog 20 #[.agg c1.toArray, .agg c2.toArray] w2 fun e w' => e = .returned (.bool (ord (psrt a) (psrt b) == 0)) ∧ Below w2.heap.size w2 w') := Lib.hid (fun w2 c1 c2 h1 h2 => same_any h1 h2)
  have HK := Lib.hid (fun w' (hb : Below W.heap.size W w') => (show Below W.heap.size W w' ∧ w'.cell? ⟨w.heap.size, 0, none⟩ = some (.int .i64 a.k) ∧ w'.cell? ⟨w.heap.size, 1, none⟩ = some (sv a.s) ∧ w'.cell? ⟨w.heap.size, 2, none⟩ = some (.int .i64 a.n) ∧ w'.cell? ⟨w.heap.size, 3, none⟩ = some (.slice A a.l.length c) ∧
      w'.cell? ⟨w.heap.size + 1, 0, none⟩ = some (.int .i64 b.k) ∧ w'.cell? ⟨w.heap.size + 1, 1, none⟩ = some (sv b.s) ∧ w'.cell? ⟨w.heap.size + 1, 2, none⟩ = some (.int .i64 b.n) ∧ w'.cell? ⟨w.heap.size + 1, 3, none⟩ = some (.slice A' b.l.length c') from
    ⟨hb, (hx.below hb hx.lt).cell 0, (hx.below hb hx.lt).cell 1, (hx.below hb hx.lt).cell 2, (hx.below hb hx.lt).cell 3, (hy.below hb hy.lt).cell 0, (hy.below hb hy.lt).cell 1, (hy.below hb hy.lt).cell 2, (hy.below hb hy.lt).cell 3⟩))
  obtain ⟨pa, hpa⟩ : ∃ p, psrt a = p := ⟨_, rfl⟩
  obtain ⟨pb, hpb⟩ : ∃ p, psrt b = p := ⟨_, rfl⟩
  rw [hpa] at HS1 HCMP ⊢
  rw [hpb] at HS2 HCMP ⊢
  obtain ⟨o, ho⟩ : ∃ o, ord pa pb = o := ⟨_, rfl⟩
  rw [ho] at HCMP ⊢
  clear hpa hpb
  have hS0 : Below W.heap.size W W := Below.refl _ _
  clear hb1 hx hy ha hb hk1 hn1 hs1 hlc1 hcm1 hd1 hl1 hk2 hn2 hs2 hlc2 hcm2 hd2 hl2 ho oa ob hsa hsb hW
  go_enter Try.func7, Try.ntmps7
  go_wp2_with fail
  rw [HW.out]
  go_region_held (fun w' => Below W.heap.size W w' ∧ w'.cell? ⟨w.heap.size, 0, none⟩ = some (.int .i64 a.k) ∧ w'.cell? ⟨w.heap.size, 1, none⟩ = some (sv a.s) ∧ w'.cell? ⟨w.heap.size, 2, none⟩ = some (.int .i64 a.n) ∧ w'.cell? ⟨w.heap.size, 3, none⟩ = some (.slice A a.l.length c) ∧
      w'.cell? ⟨w.heap.size + 1, 0, none⟩ = some (.int .i64 b.k) ∧ w'.cell? ⟨w.heap.size + 1, 1, none⟩ = some (sv b.s) ∧ w'.cell? ⟨w.heap.size + 1, 2, none⟩ = some (.int .i64 b.n) ∧ w'.cell? ⟨w.heap.size + 1, 3, none⟩ = some (.slice A' b.l.length c'))
    (first | exact HK.out _ hS0 | exact HK.out _ hS0.drew)
    (first
      | (go_at_call 6; refine (HS1.out _ (by first | exact hS0 | exact hS0.drew)).mono ?_; rintro e v1 ⟨⟨E1, f1, rfl, hv1⟩, hb2⟩; have hS0 := below_trans (by first | exact hS0 | exact hS0.drew) hb2; have HV1 := Lib.hid hv1; clear hv1 hb2 HS1)
      | (go_at_call 6; refine (HS2.out _ (by first | exact hS0 | exact hS0.drew)).mono ?_; rintro e v2 ⟨⟨E2, f2, rfl, hv2⟩, hb3⟩; have hS0 := below_trans (by first | exact hS0 | exact hS0.drew) hb3; have HC := Lib.hid (HCMP.out v2 _ _ (Liv.below (Liv.of_new HV1.out) hb3) (Liv.of_new hv2)); clear hv2 hb3)
      | (go_at_call 20; refine HC.out.mono ?_; rintro e v3 ⟨rfl, hb4⟩; have hS0 := below_trans (by first | exact hS0 | exact hS0.drew) hb4))
  go_wp2_with fail
  go_ret
  exact ⟨rfl, HB1.out.trans (hS0.mono HB1.out.size)⟩
end Go.Proofs.Ytjefpnhffdeekaa
