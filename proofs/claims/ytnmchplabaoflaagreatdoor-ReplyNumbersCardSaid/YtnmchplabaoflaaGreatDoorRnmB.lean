/- The walk of the law ReplyNumbers (tallboylaw17). -/
import Derived.Test.YtnmchplabaoflaaGreatDoorRnmA
import Derived.Test.YtnmchplabaoflaaGreatDoorRtrI
import Derived.Test.YtnmchplabaoflaaGreatDoorRpfA
import Derived.Test.YtnmchplabaoflaaGreatDoorFltH
namespace Go.Proofs.YtnmchplabaoflaaGreatDoor
open Go.RowKit Go.Shelf
set_option linter.unusedVariables false

theorem okS_pair {k n k1 n1 k2 n2 : Int} {s s1 s2 : List UInt8} : okS (.mk k s n [.mk k1 s1 n1 [], .mk k2 s2 n2 []]) := by simp [okS, okSs]
theorem okQ_pair {k n k1 n1 k2 n2 : Int} {s s1 s2 : List UInt8} : okQ (.mk k s n [.mk k1 s1 n1 [], .mk k2 s2 n2 []]) := by
  unfold okQ
  rcases h : prt k with _ | _
  · exact .inl h
  · exact .inr (by unfold okP; refine ⟨by simp, .inr h, ?_⟩; simp [okPs, okP])
theorem ord_self_n (r : Rep) : (ord r r == 0) = true := by unfold ord; rw [ordn_self]; rfl

/-- What a round of the first loops asks: the two replies are held against one another. -/
structure PairFacts (W : World) (G0 G1 G2 G3 : Nat) (a b : Int) (o p : Bool) : Prop where
  same : ∀ w', Below W.heap.size W w' → Calls Tryz.prog 4 #[.agg #[.int .i64 a, .string ⟨#[115]⟩, .int .i64 1, .slice (some ⟨G0, 0, none⟩) 2 2], .agg #[.int .i64 b, .string ⟨#[116]⟩, .int .i64 2, .slice (some ⟨G2, 0, none⟩) 2 2]] w' fun e w2 => e = .returned (.bool o) ∧ Below w'.heap.size w' w2
  rsame : ∀ w', Below W.heap.size W w' → Calls Tryz.prog 5 #[.agg #[.int .i64 a, .string ⟨#[115]⟩, .int .i64 1, .slice (some ⟨G0, 0, none⟩) 2 2], .agg #[.int .i64 b, .string ⟨#[116]⟩, .int .i64 2, .slice (some ⟨G2, 0, none⟩) 2 2]] w' fun e w2 => e = .returned (.bool o) ∧ Below w'.heap.size w' w2
  alike : ∀ w', Below W.heap.size W w' → Calls Tryz.prog 6 #[.agg #[.int .i64 a, .string ⟨#[115]⟩, .int .i64 1, .slice (some ⟨G0, 0, none⟩) 2 2], .agg #[.int .i64 b, .string ⟨#[116]⟩, .int .i64 2, .slice (some ⟨G2, 0, none⟩) 2 2]] w' fun e w2 => e = .returned (.bool p) ∧ Below w'.heap.size w' w2
  ralike : ∀ w', Below W.heap.size W w' → Calls Tryz.prog 7 #[.agg #[.int .i64 a, .string ⟨#[115]⟩, .int .i64 1, .slice (some ⟨G0, 0, none⟩) 2 2], .agg #[.int .i64 b, .string ⟨#[116]⟩, .int .i64 2, .slice (some ⟨G2, 0, none⟩) 2 2]] w' fun e w2 => e = .returned (.bool p) ∧ Below w'.heap.size w' w2
  self : ∀ w', Below W.heap.size W w' → Calls Tryz.prog 4 #[.agg #[.int .i64 a, .string ⟨#[115]⟩, .int .i64 1, .slice (some ⟨G0, 0, none⟩) 2 2], .agg #[.int .i64 a, .string ⟨#[115]⟩, .int .i64 1, .slice (some ⟨G0, 0, none⟩) 2 2]] w' fun e w2 => e = .returned (.bool true) ∧ Below w'.heap.size w' w2
theorem pair_facts {W : World} {G0 G1 G2 G3 : Nat} {a b : Int} (ha : -9 ≤ a ∧ a ≤ 20) (hb : -9 ≤ b ∧ b ≤ 20) (h1 : Blk W G0 24 #[.int .i64 3, .string ⟨#[]⟩, .int .i64 1, .slice none 0 0, .int .i64 4, .string ⟨#[]⟩, .int .i64 0, .slice none 0 0]) (h2 : Blk W G2 24 #[.int .i64 4, .string ⟨#[]⟩, .int .i64 0, .slice none 0 0, .int .i64 3, .string ⟨#[]⟩, .int .i64 1, .slice none 0 0]) :
    ∃ o p, PairFacts W G0 G1 G2 G3 a b o p := by
  have hx : Liv W (.mk a [115] 1 [.mk 3 [] 1 [], .mk 4 [] 0 []]) [.int .i64 a, .string ⟨#[115]⟩, .int .i64 1, .slice (some ⟨G0, 0, none⟩) 2 2] := pair_live (s := [115]) (s1 := []) (s2 := []) h1 (by unfold fits; omega) (by unfold maxLen; simp)
  have hy : Liv W (.mk b [116] 2 [.mk 4 [] 0 [], .mk 3 [] 1 []]) [.int .i64 b, .string ⟨#[116]⟩, .int .i64 2, .slice (some ⟨G2, 0, none⟩) 2 2] := pair_live (s := [116]) (s1 := []) (s2 := []) h2 (by unfold fits; omega) (by unfold maxLen; simp)
  refine ⟨ord (.mk a [115] 1 [.mk 3 [] 1 [], .mk 4 [] 0 []]) (.mk b [116] 2 [.mk 4 [] 0 [], .mk 3 [] 1 []]) == 0, ord (psrt (.mk a [115] 1 [.mk 3 [] 1 [], .mk 4 [] 0 []])) (psrt (.mk b [116] 2 [.mk 4 [] 0 [], .mk 3 [] 1 []])) == 0, ⟨?_, ?_, ?_, ?_, ?_⟩⟩
  · exact fun w' hb => same_any (hx.below hb) (hy.below hb)
  · exact fun w' hb => rsame_any (hx.below hb) (hy.below hb)
  · exact fun w' hb => alike_any (hx.below hb) (hy.below hb) okS_pair okS_pair
  · intro w' hb
    have := ralikeq_any (hx.below hb) (hy.below hb) okQ_pair okQ_pair
    rwa [ord_rsrt] at this
  · intro w' hb
    have := same_any (hx.below hb) (hx.below hb)
    rwa [ord_self_n] at this

theorem bulks_ab (g : Nat) (w : World) (h : Blk w g 9 #[.string ⟨#[97]⟩, .string ⟨#[98]⟩]) :
    Calls Tryz.prog 12 #[.slice (some ⟨g, 0, none⟩) 2 2] w fun e w' => ∃ a f, e = .returned (.agg #[.int .i64 7, .string ⟨#[]⟩, .int .i64 0, .slice (some a) 2 f]) ∧ a.block < w'.heap.size ∧ w'.cell? ⟨a.block, a.off + 5, none⟩ = some (.string ⟨#[98]⟩) ∧ Below w.heap.size w w' := by
  refine (bulks_any g 2 [[97], [98]] w rfl (by decide) h.lt (fun i t ht => by
    rw [h.cell i]
    match i, ht with
    | 0, ht => cases ht; rfl
    | 1, ht => cases ht; rfl) (by intro t ht; simp at ht; rcases ht with rfl | rfl <;> (unfold maxLen; simp))).mono ?_
  rintro e w' ⟨⟨E, f, rfl, hv⟩, hb⟩
  obtain ⟨E3, f3, xs3, he3, _, _, _, _, _, hrd3, hrl3⟩ := hv.fields
  obtain ⟨rfl, rfl⟩ : E = E3 ∧ f = f3 := by
    injection he3 with _ h; injection h with _ h; injection h with _ h; injection h with h _; injection h with h1 _ h2; exact ⟨h1, h2⟩
  obtain ⟨a1, r1, E1, f1, rfl, hSa, hr1, _, p0, p1, p2, p3⟩ := hrd3.at_ hrl3 rfl (i := 1) (by decide)
  cases hr1
  obtain ⟨ad, had, hsp, _⟩ := hrd3.2 (by decide)
  cases had
  refine ⟨a1, f, rfl, hSa.2, ?_, hb⟩
  rw [spot_add hsp] at p1
  simpa [Nat.add_assoc, bk, Rep.s, sv, bs] using p1

set_option maxRecDepth 100000 in
set_option maxHeartbeats 16000000 in
theorem replyNumbers_walk (w : World) (hm : My w) (hg : Et w) :
    Calls Tryz.prog 3 #[] w fun e w' => e = .returned (.bool true) ∧ Below w.heap.size w w' := by
  have HMy := Lib.hid hm
  have HEt := Lib.hid hg
  clear hm hg
  go_enter Tryz.func3, Tryz.ntmps3
  go_wp2_with fail
  go_loopw [1] (fun x wr => ∃ a : Int, -1 ≤ a ∧ a ≤ 12 ∧ x = .int .i64 a ∧ Below w.heap.size w wr) (fun x _ => (12 - nOf x).toNat)
  case atStart => exact ⟨-1, by omega, by omega, rfl, Below.refl _ _⟩
  case round =>
    obtain ⟨a, ha1, ha2, rfl, hbel⟩ := hrel
    have HBA := Lib.hid hbel
    clear hbel
    by_cases hlt : a < 12
    · go_wp2_with fail
      obtain ⟨wq, hwq⟩ : ∃ x : World, x = wr := ⟨_, rfl⟩
      subst hwq
      go_loopw [2] (fun x wr => ∃ b : Int, -1 ≤ b ∧ b ≤ 12 ∧ x = .int .i64 b ∧ Below w.heap.size w wr) (fun x _ => (12 - nOf x).toNat)
      case atStart => exact ⟨-1, by omega, by omega, rfl, HBA.out⟩
      case round =>
        obtain ⟨b, hb1, hb2, rfl, hbel⟩ := hrel
        have HBB := Lib.hid hbel
        clear hbel
        by_cases hlb : b < 12
        · have hX0 : Blk ((((wr.alloc (.cells #[.int .i64 3, .string ⟨#[]⟩, .int .i64 1, .slice none 0 0, .int .i64 4, .string ⟨#[]⟩, .int .i64 0, .slice none 0 0] 24)).alloc (.cells #[.int .i64 a, .string ⟨#[115]⟩, .int .i64 1, .slice (some ⟨wr.heap.size, 0, none⟩) 2 2] 24)).alloc (.cells #[.int .i64 4, .string ⟨#[]⟩, .int .i64 0, .slice none 0 0, .int .i64 3, .string ⟨#[]⟩, .int .i64 1, .slice none 0 0] 24)).alloc (.cells #[.int .i64 b, .string ⟨#[116]⟩, .int .i64 2, .slice (some ⟨wr.heap.size + 1 + 1, 0, none⟩) 2 2] 24)) wr.heap.size 24 #[.int .i64 3, .string ⟨#[]⟩, .int .i64 1, .slice none 0 0, .int .i64 4, .string ⟨#[]⟩, .int .i64 0, .slice none 0 0] := ((((Blk.new wr _ _).alloc _).alloc _).alloc _)
          have hX1 : Blk ((((wr.alloc (.cells #[.int .i64 3, .string ⟨#[]⟩, .int .i64 1, .slice none 0 0, .int .i64 4, .string ⟨#[]⟩, .int .i64 0, .slice none 0 0] 24)).alloc (.cells #[.int .i64 a, .string ⟨#[115]⟩, .int .i64 1, .slice (some ⟨wr.heap.size, 0, none⟩) 2 2] 24)).alloc (.cells #[.int .i64 4, .string ⟨#[]⟩, .int .i64 0, .slice none 0 0, .int .i64 3, .string ⟨#[]⟩, .int .i64 1, .slice none 0 0] 24)).alloc (.cells #[.int .i64 b, .string ⟨#[116]⟩, .int .i64 2, .slice (some ⟨wr.heap.size + 1 + 1, 0, none⟩) 2 2] 24)) (wr.heap.size + 1) 24 #[.int .i64 a, .string ⟨#[115]⟩, .int .i64 1, .slice (some ⟨wr.heap.size, 0, none⟩) 2 2] := by
            have := Blk.new (wr.alloc (.cells #[.int .i64 3, .string ⟨#[]⟩, .int .i64 1, .slice none 0 0, .int .i64 4, .string ⟨#[]⟩, .int .i64 0, .slice none 0 0] 24)) 24 #[.int .i64 a, .string ⟨#[115]⟩, .int .i64 1, .slice (some ⟨wr.heap.size, 0, none⟩) 2 2]
            rw [World.size_alloc] at this
            exact (this.alloc _).alloc _
          have hX2 : Blk ((((wr.alloc (.cells #[.int .i64 3, .string ⟨#[]⟩, .int .i64 1, .slice none 0 0, .int .i64 4, .string ⟨#[]⟩, .int .i64 0, .slice none 0 0] 24)).alloc (.cells #[.int .i64 a, .string ⟨#[115]⟩, .int .i64 1, .slice (some ⟨wr.heap.size, 0, none⟩) 2 2] 24)).alloc (.cells #[.int .i64 4, .string ⟨#[]⟩, .int .i64 0, .slice none 0 0, .int .i64 3, .string ⟨#[]⟩, .int .i64 1, .slice none 0 0] 24)).alloc (.cells #[.int .i64 b, .string ⟨#[116]⟩, .int .i64 2, .slice (some ⟨wr.heap.size + 1 + 1, 0, none⟩) 2 2] 24)) (wr.heap.size + 1 + 1) 24 #[.int .i64 4, .string ⟨#[]⟩, .int .i64 0, .slice none 0 0, .int .i64 3, .string ⟨#[]⟩, .int .i64 1, .slice none 0 0] := by
            have := Blk.new ((wr.alloc (.cells #[.int .i64 3, .string ⟨#[]⟩, .int .i64 1, .slice none 0 0, .int .i64 4, .string ⟨#[]⟩, .int .i64 0, .slice none 0 0] 24)).alloc (.cells #[.int .i64 a, .string ⟨#[115]⟩, .int .i64 1, .slice (some ⟨wr.heap.size, 0, none⟩) 2 2] 24)) 24 #[.int .i64 4, .string ⟨#[]⟩, .int .i64 0, .slice none 0 0, .int .i64 3, .string ⟨#[]⟩, .int .i64 1, .slice none 0 0]
            rw [World.size_alloc, World.size_alloc] at this
            exact this.alloc _
          have hX3 : Blk ((((wr.alloc (.cells #[.int .i64 3, .string ⟨#[]⟩, .int .i64 1, .slice none 0 0, .int .i64 4, .string ⟨#[]⟩, .int .i64 0, .slice none 0 0] 24)).alloc (.cells #[.int .i64 a, .string ⟨#[115]⟩, .int .i64 1, .slice (some ⟨wr.heap.size, 0, none⟩) 2 2] 24)).alloc (.cells #[.int .i64 4, .string ⟨#[]⟩, .int .i64 0, .slice none 0 0, .int .i64 3, .string ⟨#[]⟩, .int .i64 1, .slice none 0 0] 24)).alloc (.cells #[.int .i64 b, .string ⟨#[116]⟩, .int .i64 2, .slice (some ⟨wr.heap.size + 1 + 1, 0, none⟩) 2 2] 24)) (wr.heap.size + 1 + 1 + 1) 24 #[.int .i64 b, .string ⟨#[116]⟩, .int .i64 2, .slice (some ⟨wr.heap.size + 1 + 1, 0, none⟩) 2 2] := by
            have := Blk.new (((wr.alloc (.cells #[.int .i64 3, .string ⟨#[]⟩, .int .i64 1, .slice none 0 0, .int .i64 4, .string ⟨#[]⟩, .int .i64 0, .slice none 0 0] 24)).alloc (.cells #[.int .i64 a, .string ⟨#[115]⟩, .int .i64 1, .slice (some ⟨wr.heap.size, 0, none⟩) 2 2] 24)).alloc (.cells #[.int .i64 4, .string ⟨#[]⟩, .int .i64 0, .slice none 0 0, .int .i64 3, .string ⟨#[]⟩, .int .i64 1, .slice none 0 0] 24)) 24 #[.int .i64 b, .string ⟨#[116]⟩, .int .i64 2, .slice (some ⟨wr.heap.size + 1 + 1, 0, none⟩) 2 2]
            rw [World.size_alloc, World.size_alloc, World.size_alloc] at this
            exact this
          have hW4 : Below wr.heap.size wr ((((wr.alloc (.cells #[.int .i64 3, .string ⟨#[]⟩, .int .i64 1, .slice none 0 0, .int .i64 4, .string ⟨#[]⟩, .int .i64 0, .slice none 0 0] 24)).alloc (.cells #[.int .i64 a, .string ⟨#[115]⟩, .int .i64 1, .slice (some ⟨wr.heap.size, 0, none⟩) 2 2] 24)).alloc (.cells #[.int .i64 4, .string ⟨#[]⟩, .int .i64 0, .slice none 0 0, .int .i64 3, .string ⟨#[]⟩, .int .i64 1, .slice none 0 0] 24)).alloc (.cells #[.int .i64 b, .string ⟨#[116]⟩, .int .i64 2, .slice (some ⟨wr.heap.size + 1 + 1, 0, none⟩) 2 2] 24)) := ((((Below.refl _ _).alloc (Nat.le_refl _) _).alloc (by simp) _).alloc (by simp; omega) _).alloc (by simp; omega) _
          go_wp2_with fail
          obtain ⟨G0, hG0⟩ : ∃ G, wr.heap.size = G := ⟨_, rfl⟩
          have HSZ := Lib.hid HBB.out.size
          have HW4 := Lib.hid hW4
          clear hW4
          obtain ⟨W, hW⟩ : ∃ W, ((((wr.alloc (.cells #[.int .i64 3, .string ⟨#[]⟩, .int .i64 1, .slice none 0 0, .int .i64 4, .string ⟨#[]⟩, .int .i64 0, .slice none 0 0] 24)).alloc (.cells #[.int .i64 a, .string ⟨#[115]⟩, .int .i64 1, .slice (some ⟨wr.heap.size, 0, none⟩) 2 2] 24)).alloc (.cells #[.int .i64 4, .string ⟨#[]⟩, .int .i64 0, .slice none 0 0, .int .i64 3, .string ⟨#[]⟩, .int .i64 1, .slice none 0 0] 24)).alloc (.cells #[.int .i64 b, .string ⟨#[116]⟩, .int .i64 2, .slice (some ⟨wr.heap.size + 1 + 1, 0, none⟩) 2 2] 24)) = W := ⟨_, rfl⟩
          simp only [Nat.add_assoc, Nat.reduceAdd] at hX0 hX1 hX2 hX3 hW ⊢
          rw [hW] at hX0 hX1 hX2 hX3
          try rw [hW]
          have HWB : Hid (Below w.heap.size w W) := Lib.hid (by rw [← hW]; simpa only [Nat.add_assoc, Nat.reduceAdd] using HBB.out.trans (HW4.out.mono HBB.out.size))
          clear hW HW4
          rw [hG0] at hX0 hX1 hX2 hX3
          try rw [hG0]
          clear hG0
          obtain ⟨G1, hG1⟩ : ∃ G, G0 + 1 = G := ⟨_, rfl⟩
          obtain ⟨G2, hG2⟩ : ∃ G, G0 + 2 = G := ⟨_, rfl⟩
          obtain ⟨G3, hG3⟩ : ∃ G, G0 + 3 = G := ⟨_, rfl⟩
          rw [hG1] at hX1
          rw [hG2] at hX2 hX3
          rw [hG3] at hX3
          rw [hG1, hG2, hG3]
          clear hG1 hG2 hG3
          obtain ⟨o, p, hP⟩ := pair_facts (G1 := G1) (G3 := G3) (a := a) (b := b) (by omega) (by omega) hX0 hX2
          have HS1 := Lib.hid hP.same
          have HS2 := Lib.hid hP.rsame
          have HA1 := Lib.hid hP.alike
          have HA2 := Lib.hid hP.ralike
          have HS3 := Lib.hid hP.self
          have hbx := hX1
          have hby := hX3
          have HK := Lib.hid (fun w' (hb : Below W.heap.size W w') => (show Below W.heap.size W w' ∧ w'.cell? ⟨G1, 0, none⟩ = some (.int .i64 a) ∧ w'.cell? ⟨G1, 1, none⟩ = some (.string ⟨#[115]⟩) ∧ w'.cell? ⟨G1, 2, none⟩ = some (.int .i64 1) ∧ w'.cell? ⟨G1, 3, none⟩ = some (.slice (some ⟨G0, 0, none⟩) 2 2) ∧ w'.cell? ⟨G3, 0, none⟩ = some (.int .i64 b) ∧ w'.cell? ⟨G3, 1, none⟩ = some (.string ⟨#[116]⟩) ∧ w'.cell? ⟨G3, 2, none⟩ = some (.int .i64 2) ∧ w'.cell? ⟨G3, 3, none⟩ = some (.slice (some ⟨G2, 0, none⟩) 2 2) from
            ⟨hb, (hbx.below hb hbx.lt).cell 0, (hbx.below hb hbx.lt).cell 1, (hbx.below hb hbx.lt).cell 2, (hbx.below hb hbx.lt).cell 3, (hby.below hb hby.lt).cell 0, (hby.below hb hby.lt).cell 1, (hby.below hb hby.lt).cell 2, (hby.below hb hby.lt).cell 3⟩))
          have hS0 : Below W.heap.size W W := Below.refl _ _
          have hoo : (o != o) = false := by simp
          have hpp : (p != p) = false := by simp
          clear hP hX0 hX1 hX2 hX3 hbx hby
          go_region_held (fun w' => Below W.heap.size W w' ∧ w'.cell? ⟨G1, 0, none⟩ = some (.int .i64 a) ∧ w'.cell? ⟨G1, 1, none⟩ = some (.string ⟨#[115]⟩) ∧ w'.cell? ⟨G1, 2, none⟩ = some (.int .i64 1) ∧ w'.cell? ⟨G1, 3, none⟩ = some (.slice (some ⟨G0, 0, none⟩) 2 2) ∧ w'.cell? ⟨G3, 0, none⟩ = some (.int .i64 b) ∧ w'.cell? ⟨G3, 1, none⟩ = some (.string ⟨#[116]⟩) ∧ w'.cell? ⟨G3, 2, none⟩ = some (.int .i64 2) ∧ w'.cell? ⟨G3, 3, none⟩ = some (.slice (some ⟨G2, 0, none⟩) 2 2))
            (first | exact HK.out _ hS0 | exact HK.out _ hS0.drew)
            (first
              | (go_at_call 4; refine (HS1.out _ (by first | exact hS0 | exact hS0.drew)).mono ?_; rintro e v ⟨rfl, hb⟩; have hS0 := below_trans (by first | exact hS0 | exact hS0.drew) hb; clear HS1; clear hb)
              | (go_at_call 5; refine (HS2.out _ (by first | exact hS0 | exact hS0.drew)).mono ?_; rintro e v ⟨rfl, hb⟩; have hS0 := below_trans (by first | exact hS0 | exact hS0.drew) hb; clear hb)
              | (go_at_call 6; refine (HA1.out _ (by first | exact hS0 | exact hS0.drew)).mono ?_; rintro e v ⟨rfl, hb⟩; have hS0 := below_trans (by first | exact hS0 | exact hS0.drew) hb; clear hb)
              | (go_at_call 7; refine (HA2.out _ (by first | exact hS0 | exact hS0.drew)).mono ?_; rintro e v ⟨rfl, hb⟩; have hS0 := below_trans (by first | exact hS0 | exact hS0.drew) hb; clear hb)
              | (go_at_call 4; refine (HS3.out _ (by first | exact hS0 | exact hS0.drew)).mono ?_; rintro e v ⟨rfl, hb⟩; have hS0 := below_trans (by first | exact hS0 | exact hS0.drew) hb; clear hb))
          go_wp2_with fail
          go_roundw
          case rel => exact ⟨b + 1, by omega, by omega, by first | rfl | go_num, HWB.out.trans (hS0.mono HWB.out.size)⟩
          case measure => simp [nOf]; omega
        · go_wp2_with fail
          go_roundw
          case rel => exact ⟨a + 1, by omega, by omega, by first | rfl | go_num, HBB.out⟩
          case measure => simp [nOf]; omega
    · go_wp2_with fail
      obtain ⟨wq, hwq⟩ : ∃ x : World, x = wr := ⟨_, rfl⟩
      subst hwq
      go_loopw [5] (fun x wr => ∃ c : Int, 0 ≤ c ∧ c ≤ 27 ∧ x = .int .i64 c ∧ Below w.heap.size w wr) (fun x _ => (27 - nOf x).toNat)
      case atStart => exact ⟨0, by omega, by omega, rfl, HBA.out⟩
      case round =>
        obtain ⟨c, hc1, hc2, rfl, hbel⟩ := hrel
        have HBC := Lib.hid hbel
        clear hbel
        by_cases hlc : c < 27
        · obtain ⟨T, hT⟩ : ∃ T, tx c (pln [103, 101, 116]) = T := ⟨_, rfl⟩
          have HRT : Hid (∀ w1, Calls Tryz.prog 10 #[.int .i64 c, .string ⟨#[103, 101, 116]⟩] w1 fun e w' => e = .returned (.string (bs T)) ∧ w1 = w') := Lib.hid (fun w1 => by have := reft_any c [103, 101, 116] w1 (by decide); rw [hT] at this; exact this)
          by_cases hc0 : c = 0
          · subst hc0
            have HFN : Hid (∀ w1, My w1 → Calls Tryz.prog 8 #[.string ⟨#[103, 101, 116]⟩, .nilIface] w1 fun e w' => e = .returned (.agg #[.int .i64 2, .string (bs T), .int .i64 0, .slice none 0 0]) ∧ Below w1.heap.size w1 w') := Lib.hid (fun w1 h => by have := fail_nil [103, 101, 116] w1 (by decide) h; rw [hT] at this; exact this)
            clear hT
            go_wp2_with fail
            refine (new_ok _ _).mono ?_
            rintro e w1 ⟨rfl, rfl⟩
            go_wp2_with fail
            refine (HFN.out _ (HMy.out.below_ HBC.out)).mono ?_
            rintro e w2 ⟨rfl, hb2⟩
            have HB2 := Lib.hid (below_trans HBC.out hb2)
            clear hb2
            go_wp2_with fail
            have hB := Blk.new w2 24 #[.int .i64 2, .string (bs T), .int .i64 0, .slice none 0 0]
            have HWB := Lib.hid (HB2.out.alloc HB2.out.size (.cells #[.int .i64 2, .string (bs T), .int .i64 0, .slice none 0 0] 24))
            obtain ⟨W, hW⟩ : ∃ W, w2.alloc (.cells #[.int .i64 2, .string (bs T), .int .i64 0, .slice none 0 0] 24) = W := ⟨_, rfl⟩
            rw [hW] at hB HWB
            try rw [hW]
            clear hW
            generalize w2.heap.size = G at hB ⊢
            have HFA : Hid (∀ w', Calls Tryz.prog 11 #[.agg #[.int .i64 2, .string (bs T), .int .i64 0, .slice none 0 0]] w' fun e w2 => e = .returned (.bool true) ∧ Below w'.heap.size w' w2) := Lib.hid (fun w' => failed_any 2 T 0 none 0 0 w')
            have HK := Lib.hid (fun w' (hb : Below W.heap.size W w') => (show Below W.heap.size W w' ∧ w'.cell? ⟨G, 0, none⟩ = some (.int .i64 2) ∧ w'.cell? ⟨G, 1, none⟩ = some (.string (bs T)) ∧ w'.cell? ⟨G, 2, none⟩ = some (.int .i64 0) ∧ w'.cell? ⟨G, 3, none⟩ = some (.slice none 0 0) from
              ⟨hb, (hB.below hb hB.lt).cell 0, (hB.below hb hB.lt).cell 1, (hB.below hb hB.lt).cell 2, (hB.below hb hB.lt).cell 3⟩))
            have hS0 : Below W.heap.size W W := Below.refl _ _
            clear hB
            go_region_held (fun w' => Below W.heap.size W w' ∧ w'.cell? ⟨G, 0, none⟩ = some (.int .i64 2) ∧ w'.cell? ⟨G, 1, none⟩ = some (.string (bs T)) ∧ w'.cell? ⟨G, 2, none⟩ = some (.int .i64 0) ∧ w'.cell? ⟨G, 3, none⟩ = some (.slice none 0 0))
              (first | exact HK.out _ hS0 | exact HK.out _ hS0.drew)
              (first
                | (go_at_call 10; refine (HRT.out _).mono ?_; rintro e v ⟨rfl, rfl⟩)
                | (go_at_call 11; refine (HFA.out _).mono ?_; rintro e v ⟨rfl, hb⟩; have hS0 := below_trans (by first | exact hS0 | exact hS0.drew) hb; clear hb))
            go_wp2_with fail
            go_roundw
            case rel => exact ⟨(0 : Int) + 1, by omega, by omega, by first | rfl | go_num, HWB.out.trans (hS0.mono HWB.out.size)⟩
            case measure => first | (simp [nOf]; done) | (simp [nOf]; omega)
          · have HNW : Hid (∀ w1, Calls Tryz.prog 9 #[.string ⟨#[111, 116, 104, 101, 114]⟩, .int .i64 c] w1 fun e w' => ∃ g, e = .returned (ev (cd c) [(g, [111, 116, 104, 101, 114])]) ∧ Chn w' (cd c) [(g, [111, 116, 104, 101, 114])] ∧ Below w1.heap.size w1 w') := Lib.hid (fun w1 => new_any [111, 116, 104, 101, 114] c w1 hc0)
            have HFN : Hid (∀ l w1, Chn w1 (cd c) l → Et w1 → My w1 → Calls Tryz.prog 8 #[.string ⟨#[103, 101, 116]⟩, ev (cd c) l] w1 fun e w' => e = .returned (.agg #[.int .i64 2, .string (bs T), .int .i64 0, .slice none 0 0]) ∧ Below w1.heap.size w1 w') := Lib.hid (fun l w1 h1 h2 h3 => by have := fail_any c [103, 101, 116] l w1 (by decide) h1 h2 h3; rw [hT] at this; exact this)
            clear hT
            go_wp2_with fail
            refine (HNW.out _).mono ?_
            rintro e w1 ⟨g, rfl, hch, hb1⟩
            have HB1 := Lib.hid (below_trans HBC.out hb1)
            obtain ⟨u1, v1, hu1⟩ := ev_iface ⟨_, _, rfl⟩ [(g, [111, 116, 104, 101, 114])] (E0 := cd c)
            have HF1 := Lib.hid (HFN.out _ w1 hch (HEt.out.below_ HB1.out) (HMy.out.below_ HB1.out))
            rw [hu1] at HF1 ⊢
            clear hu1 hch hb1
            go_wp2_with fail
            refine HF1.out.mono ?_
            rintro e w2 ⟨rfl, hb2⟩
            have HB2 := Lib.hid (below_trans HB1.out hb2)
            clear hb2
            go_wp2_with fail
            have hB := Blk.new w2 24 #[.int .i64 2, .string (bs T), .int .i64 0, .slice none 0 0]
            have HWB := Lib.hid (HB2.out.alloc HB2.out.size (.cells #[.int .i64 2, .string (bs T), .int .i64 0, .slice none 0 0] 24))
            obtain ⟨W, hW⟩ : ∃ W, w2.alloc (.cells #[.int .i64 2, .string (bs T), .int .i64 0, .slice none 0 0] 24) = W := ⟨_, rfl⟩
            rw [hW] at hB HWB
            try rw [hW]
            clear hW
            generalize w2.heap.size = G at hB ⊢
            have HFA : Hid (∀ w', Calls Tryz.prog 11 #[.agg #[.int .i64 2, .string (bs T), .int .i64 0, .slice none 0 0]] w' fun e w2 => e = .returned (.bool true) ∧ Below w'.heap.size w' w2) := Lib.hid (fun w' => failed_any 2 T 0 none 0 0 w')
            have HK := Lib.hid (fun w' (hb : Below W.heap.size W w') => (show Below W.heap.size W w' ∧ w'.cell? ⟨G, 0, none⟩ = some (.int .i64 2) ∧ w'.cell? ⟨G, 1, none⟩ = some (.string (bs T)) ∧ w'.cell? ⟨G, 2, none⟩ = some (.int .i64 0) ∧ w'.cell? ⟨G, 3, none⟩ = some (.slice none 0 0) from
              ⟨hb, (hB.below hb hB.lt).cell 0, (hB.below hb hB.lt).cell 1, (hB.below hb hB.lt).cell 2, (hB.below hb hB.lt).cell 3⟩))
            have hS0 : Below W.heap.size W W := Below.refl _ _
            clear hB
            go_region_held (fun w' => Below W.heap.size W w' ∧ w'.cell? ⟨G, 0, none⟩ = some (.int .i64 2) ∧ w'.cell? ⟨G, 1, none⟩ = some (.string (bs T)) ∧ w'.cell? ⟨G, 2, none⟩ = some (.int .i64 0) ∧ w'.cell? ⟨G, 3, none⟩ = some (.slice none 0 0))
              (first | exact HK.out _ hS0 | exact HK.out _ hS0.drew)
              (first
                | (go_at_call 10; refine (HRT.out _).mono ?_; rintro e v ⟨rfl, rfl⟩)
                | (go_at_call 11; refine (HFA.out _).mono ?_; rintro e v ⟨rfl, hb⟩; have hS0 := below_trans (by first | exact hS0 | exact hS0.drew) hb; clear hb))
            go_wp2_with fail
            go_roundw
            case rel => exact ⟨c + 1, by omega, by omega, by first | rfl | go_num, HWB.out.trans (hS0.mono HWB.out.size)⟩
            case measure => first | (simp [nOf]; done) | (simp [nOf]; omega)
        · have HBK := Lib.hid (bulks_ab wr.heap.size (wr.alloc (.cells #[.string ⟨#[97]⟩, .string ⟨#[98]⟩] 9)) (Blk.new wr _ _))
          have HB0 := Lib.hid (HBC.out.alloc HBC.out.size (.cells #[.string ⟨#[97]⟩, .string ⟨#[98]⟩] 9))
          go_wp2_with fail
          refine HBK.out.mono ?_
          rintro e w2 ⟨a1, f, rfl, hla, hca, hb2⟩
          have HB2 := Lib.hid (below_trans HB0.out hb2)
          clear hb2
          have hBT := Blk.new w2 24 #[.int .i64 7, .string ⟨#[]⟩, .int .i64 0, .slice (some a1) 2 f]
          have HWB := Lib.hid (HB2.out.alloc HB2.out.size (.cells #[.int .i64 7, .string ⟨#[]⟩, .int .i64 0, .slice (some a1) 2 f] 24))
          have hca2 := (World.cell?_alloc_lt w2 (.cells #[.int .i64 7, .string ⟨#[]⟩, .int .i64 0, .slice (some a1) 2 f] 24) ⟨a1.block, a1.off + 5, none⟩ hla).trans hca
          have hla2 : a1.block < (w2.alloc (.cells #[.int .i64 7, .string ⟨#[]⟩, .int .i64 0, .slice (some a1) 2 f] 24)).heap.size := by rw [World.size_alloc]; omega
          clear hca
          go_wp2_with fail
          obtain ⟨W, hW⟩ : ∃ W, w2.alloc (.cells #[.int .i64 7, .string ⟨#[]⟩, .int .i64 0, .slice (some a1) 2 f] 24) = W := ⟨_, rfl⟩
          rw [hW] at hBT HWB hca2 hla2
          try rw [hW]
          clear hW
          generalize w2.heap.size = G at hBT ⊢
          have HBT := Lib.hid hBT
          have HCA := Lib.hid hca2
          have HLA := Lib.hid hla2
          clear hBT hca2 hla2 hla
          have f1 : ∀ w : World, (Instr.field 24 (.agg #[.int .i64 3, .string ⟨#[]⟩, .int .i64 (-5), .slice none 0 0]) 2).run Tryz.prog w = .ok (.int .i64 (-5)) w := fun _ => by kernel_rfl
          have f2 : ∀ w : World, (Instr.field 24 (.agg #[.int .i64 3, .string ⟨#[]⟩, .int .i64 5, .slice none 0 0]) 0).run Tryz.prog w = .ok (.int .i64 3) w := fun _ => by kernel_rfl
          have f4 : ∀ w : World, (Instr.field 24 (.agg #[.int .i64 4, .string ⟨#[120]⟩, .int .i64 0, .slice none 0 0]) 1).run Tryz.prog w = .ok (.string ⟨#[120]⟩) w := fun _ => by kernel_rfl
          have HFA : Hid (∀ w', Calls Tryz.prog 11 #[.agg #[.int .i64 1, .string ⟨#[79, 75]⟩, .int .i64 0, .slice none 0 0]] w' fun e w2 => e = .returned (.bool false) ∧ Below w'.heap.size w' w2) := Lib.hid (fun w' => failed_any 1 [79, 75] 0 none 0 0 w')
          refine (int17_any _ _).mono ?_
          rintro e w3 ⟨rfl, hb3⟩
          go_wp2_with fail
          refine (int17_any _ _).mono ?_
          rintro e w4 ⟨rfl, hb4⟩
          go_wp2_with fail
          refine (bulk_any _ _).mono ?_
          rintro e w5 ⟨rfl, hb5⟩
          have HB5 := Lib.hid (below_trans (below_trans hb3 hb4) hb5)
          clear hb3 hb4 hb5
          have x4 := (HBT.out.below HB5.out HBT.out.lt).x4
          have y4 := (HB5.out.cell (p := ⟨a1.block, a1.off + 5, none⟩) HLA.out).trans HCA.out
          go_wp2_with fail
          refine (ok_any _).mono ?_
          rintro e w6 ⟨rfl, hb6⟩
          go_wp2_with fail
          refine (HFA.out _).mono ?_
          rintro e w7 ⟨rfl, hb7⟩
          go_wp2_with fail
          refine (known17_any _).mono ?_
          rintro e w8 ⟨rfl, hb8⟩
          have HB8 := Lib.hid (below_trans HB5.out (below_trans (below_trans hb6 hb7) hb8))
          clear hb6 hb7 hb8
          go_wp2_with fail
          go_ret
          exact ⟨rfl, HWB.out.trans (HB8.out.mono HWB.out.size)⟩
end Go.Proofs.YtnmchplabaoflaaGreatDoor
