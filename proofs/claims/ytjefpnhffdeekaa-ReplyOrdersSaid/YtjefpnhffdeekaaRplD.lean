/- The walk of the document's answer's Order, Same (tallboyref17), for any two replies. -/
import Derived.Test.YtjefpnhffdeekaaRplC
import Derived.Test.YtjefpnhffdeekaaRepO
import Derived.Deep.RegionHeld3
namespace Go.Proofs.Ytjefpnhffdeekaa
open Go.RowKit
set_option linter.unusedVariables false

theorem sign_t (w : World) : Calls Try.prog 34 #[.bool true] w fun e w' => e = .returned (.int .i64 (-1)) ∧ w = w' := by
  go_enter Try.func34, Try.ntmps34
  go_wp2
  go_ret
  exact ⟨rfl, rfl⟩
theorem sign_f (w : World) : Calls Try.prog 34 #[.bool false] w fun e w' => e = .returned (.int .i64 1) ∧ w = w' := by
  go_enter Try.func34, Try.ntmps34
  go_wp2
  go_ret
  exact ⟨rfl, rfl⟩
/-- Two replies' boxes. -/
theorem ord_kind {k k' : Int} (h : k ≠ k') (s : List UInt8) (n : Int) (l : List Rep) (s' : List UInt8) (n' : Int) (l' : List Rep) : ord (.mk k s n l) (.mk k' s' n' l') = cmpI k k' := by
  rw [ord_mk, orL, or2, if_pos (by rcases cmpI_val k k' with h1 | h1 | h1 <;> omega)]
theorem ord_num {k : Int} (h : k = 3) (s : List UInt8) (n : Int) (l : List Rep) (s' : List UInt8) (n' : Int) (l' : List Rep) : ord (.mk k s n l) (.mk k s' n' l') = cmpI n n' := by
  rw [ord_mk]; subst h
  rw [show txt 3 = false by decide, show prt 3 = false by decide]
  simp [orL, cmpI_self, or2_zero, or2_zero', cmpS, ords]
theorem ord_txt {k : Int} (h : txt k = true) (s : List UInt8) (n : Int) (l : List Rep) (s' : List UInt8) (n' : Int) (l' : List Rep) : ord (.mk k s n l) (.mk k s' n' l') = cmpS s s' := by
  have h3 : ¬ k = 3 := by intro e; rw [e] at h; exact absurd h (by decide)
  have hp : prt k = false := by
    unfold txt at h; unfold prt
    have := of_decide_eq_true h
    exact decide_eq_false (by omega)
  rw [ord_mk, h, hp, if_neg h3, if_neg h3]
  simp [orL, cmpI_self, or2_zero, or2_zero', ords]
theorem ord_none {k : Int} (h : txt k = false) (h3 : ¬ k = 3) (hp : prt k = false) (s : List UInt8) (n : Int) (l : List Rep) (s' : List UInt8) (n' : Int) (l' : List Rep) : ord (.mk k s n l) (.mk k s' n' l') = 0 := by
  rw [ord_mk, h, hp, if_neg h3, if_neg h3]
  simp [orL, cmpI_self, or2_zero, cmpS, ords]
theorem ord_prt {k : Int} (hp : prt k = true) (s : List UInt8) (n : Int) (l : List Rep) (s' : List UInt8) (n' : Int) (l' : List Rep) : ord (.mk k s n l) (.mk k s' n' l') = ords (l.map Rep.norm) (l'.map Rep.norm) := by
  have h3 : ¬ k = 3 := by intro e; rw [e] at hp; exact absurd hp (by decide)
  have h : txt k = false := by
    unfold prt at hp; unfold txt
    have := of_decide_eq_true hp
    exact decide_eq_false (by omega)
  rw [ord_mk, h, hp, if_neg h3, if_neg h3]
  simp [orL, cmpI_self, or2_zero, or2_zero', cmpS]


set_option maxRecDepth 100000 in
set_option maxHeartbeats 8000000 in
theorem order_any : ∀ (N : Nat) (a : Rep), SizeOf.sizeOf a ≤ N → CmpAt 21 a := by
  intro N
  induction N with
  | zero => intro a h; cases a; simp at h
  | succ N ih =>
    intro a hN b w cs cs' ha hb
    obtain ⟨k, s, n, l⟩ := a
    obtain ⟨k', s', n', l'⟩ := b
    obtain ⟨A, c, xs, rfl, hk1, hn1, hs1, hlc1, hcm1, hd1, hl1⟩ := ha.fields
    obtain ⟨A', c', xs', rfl, hk2, hn2, hs2, hlc2, hcm2, hd2, hl2⟩ := hb.fields
    simp only [Rep.k, Rep.s, Rep.n, Rep.l] at *
    have hb1 : Below w.heap.size w ((w.alloc (.cells #[.int .i64 k, sv s, .int .i64 n, .slice A l.length c] 25)).alloc (.cells #[.int .i64 k', sv s', .int .i64 n', .slice A' l'.length c'] 25)) := ((Below.refl _ _).alloc (Nat.le_refl _) _).alloc (by simp) _
    have HB1 := Lib.hid hb1
    clear hb1
    by_cases hkk : k = k'
    · subst hkk
      have hkb : (k != k) = false := by simp
      rcases ht : txt k with _ | _
      · rcases hp : prt k with _ | _
        · by_cases hk3 : k = 3
          · have hd3 : decide (k = 3) = true := by simpa using hk3
            have hsh := fun w => shows_is w ht hd3 hp
            have hO := ord_num hk3 s n l s' n' l'
            rcases cmpI_val n n' with ⟨h, h1⟩ | ⟨h, h1⟩ | ⟨h, h1⟩
            · rw [h] at hO
              have HO := Lib.hid hO
              have hne : (n != n') = true := by simp; omega
              clear hk3 ht hp hd3 h hO
              go_enter Try.func21, Try.ntmps21
              go_wp2_with fail
              refine (hsh _).mono ?_
              rintro e w1 ⟨rfl, rfl⟩
              go_wp2_with fail
              refine (sign_t _).mono ?_
              rintro e w9 ⟨rfl, rfl⟩
              go_wp2_with fail
              go_ret
              exact ⟨ret_int HO.out.symm, HB1.out⟩
            · rw [h] at hO
              have HO := Lib.hid hO
              subst h1
              clear hk3 ht hp hd3 h hO
              go_enter Try.func21, Try.ntmps21
              go_wp2_with fail
              refine (hsh _).mono ?_
              rintro e w1 ⟨rfl, rfl⟩
              go_wp2_with fail
              go_ret
              exact ⟨ret_int HO.out.symm, HB1.out⟩
            · rw [h] at hO
              have HO := Lib.hid hO
              have hne : (n != n') = true := by simp; omega
              have hlt : decide (n < n') = false := decide_eq_false (by omega)
              clear hk3 ht hp hd3 h hO
              go_enter Try.func21, Try.ntmps21
              go_wp2_with fail
              refine (hsh _).mono ?_
              rintro e w1 ⟨rfl, rfl⟩
              go_wp2_with fail
              refine (sign_f _).mono ?_
              rintro e w9 ⟨rfl, rfl⟩
              go_wp2_with fail
              go_ret
              exact ⟨ret_int HO.out.symm, HB1.out⟩
          · have hd3 : decide (k = 3) = false := by simpa using hk3
            have hsh := fun w => shows_is w ht hd3 hp
            have HO := Lib.hid (ord_none ht hk3 hp s n l s' n' l')
            clear hk3 ht hp hd3
            go_enter Try.func21, Try.ntmps21
            go_wp2_with fail
            refine (hsh _).mono ?_
            rintro e w1 ⟨rfl, rfl⟩
            go_wp2_with fail
            go_ret
            exact ⟨ret_int HO.out.symm, HB1.out⟩
        · have hk3 : ¬ k = 3 := by intro e; rw [e] at hp; exact absurd hp (by decide)
          have hd3 : decide (k = 3) = false := by simpa using hk3
          have hsh := fun w => shows_is w ht hd3 hp
          have HO := Lib.hid (ord_prt hp s n l s' n' l')
          have Ha := Lib.hid (Liv.below ha HB1.out)
          have Hb := Lib.hid (Liv.below hb HB1.out)
          have hX1 : Blk ((w.alloc (.cells #[.int .i64 k, sv s, .int .i64 n, .slice A l.length c] 25)).alloc (.cells #[.int .i64 k, sv s', .int .i64 n', .slice A' l'.length c'] 25)) w.heap.size 25 #[.int .i64 k, sv s, .int .i64 n, .slice A l.length c] := (Blk.new w _ _).alloc _
          have hX2 : Blk ((w.alloc (.cells #[.int .i64 k, sv s, .int .i64 n, .slice A l.length c] 25)).alloc (.cells #[.int .i64 k, sv s', .int .i64 n', .slice A' l'.length c'] 25)) (w.heap.size + 1) 25 #[.int .i64 k, sv s', .int .i64 n', .slice A' l'.length c'] := by
            have := Blk.new (w.alloc (.cells #[.int .i64 k, sv s, .int .i64 n, .slice A l.length c] 25)) 25 #[.int .i64 k, sv s', .int .i64 n', .slice A' l'.length c']
            simpa using this
          have HX1 := Lib.hid hX1
          have HX2 := Lib.hid hX2
          have HD1 := Lib.hid hd1
          have HD2 := Lib.hid hd2
          have HL1 := Lib.hid hl1
          have HL2 := Lib.hid hl2
          obtain ⟨m, hm⟩ : ∃ m, l.length = m := ⟨_, rfl⟩
          obtain ⟨m', hm'⟩ : ∃ m, l'.length = m := ⟨_, rfl⟩
          have HM := Lib.hid hm
          have HM2 := Lib.hid hm'
          have HSZ := Lib.hid hN
          clear ha hb hX1 hX2 hd1 hd2 hl1 hl2
          rw [hm, hm'] at HX1 HX2 HB1
          rw [hm] at HD1 hlc1
          rw [hm'] at HD2 hlc2
          rw [hm, hm']
          clear hm hm'
          unfold maxLen at hcm1 hcm2
          go_enter Try.func21, Try.ntmps21
          go_wp2_with fail
          refine (hsh _).mono ?_
          rintro e w1 ⟨rfl, rfl⟩
          go_wp2_with fail
          go_loopw [8] (fun x wr => ∃ i, i ≤ m ∧ i ≤ m' ∧ x = .int .i64 (i : Nat) ∧ Hid (ords (l.map Rep.norm) (l'.map Rep.norm) = ords ((l.drop i).map Rep.norm) ((l'.drop i).map Rep.norm)) ∧ Blk wr w.heap.size 25 #[.int .i64 k, sv s, .int .i64 n, .slice A m c] ∧ Blk wr (w.heap.size + 1) 25 #[.int .i64 k, sv s', .int .i64 n', .slice A' m' c'] ∧ Below w.heap.size w wr) (fun x _ => m - (nOf x).toNat)
          case atStart => exact ⟨0, Nat.zero_le _, Nat.zero_le _, rfl, Lib.hid rfl, HX1.out, HX2.out, HB1.out⟩
          case round =>
            obtain ⟨i, him, him', rfl, HQ, hB1, hB2, hbel⟩ := hrel
            have c3 := hB1.cell 3
            have d3 := hB2.cell 3
            by_cases hlt : i < m ∧ i < m'
            · obtain ⟨hlt, hlt2⟩ := hlt
              obtain ⟨a1, r1, E1, f1, rfl, hSa1, hr1, hv1, p0, p1, p2, p3⟩ := (HD1.out.keep (fun p hp => hbel.cell hp)).at_ (HL1.out.keep (fun p hp => hbel.cell hp)) HM.out hlt
              obtain ⟨a2, r2, E2, f2, rfl, hSa2, hr2, hv2, q0, q1, q2, q3⟩ := (HD2.out.keep (fun p hp => hbel.cell hp)).at_ (HL2.out.keep (fun p hp => hbel.cell hp)) HM2.out hlt2
              have HC := Lib.hid (fun w' (hb : Below wr.heap.size wr w') => ih r1 (by have := sizeOf_mem (k := k) (n := n) (s := s) (List.mem_of_getElem? hr1); have := HSZ.out; omega) r2 w' _ _ (Liv.below (hv1.mono (fun b hb => Nat.lt_of_lt_of_le hb hbel.size)) hb) (Liv.below (hv2.mono (fun b hb => Nat.lt_of_lt_of_le hb hbel.size)) hb))
              have HNX := Lib.hid (ords_next hr1 hr2)
              obtain ⟨o, ho⟩ : ∃ o, ord r1 r2 = o := ⟨_, rfl⟩
              rw [ho] at HC HNX
              have hbs : w.heap.size ≤ wr.heap.size := hbel.size
              have HK := Lib.hid (fun w' (hb : Below wr.heap.size wr w') => (show Below wr.heap.size wr w' ∧ w'.cell? ⟨w.heap.size, 3, none⟩ = some (.slice (some a1) m c) ∧ w'.cell? ⟨w.heap.size + 1, 3, none⟩ = some (.slice (some a2) m' c') ∧ w'.cell? (a1.add (i * 4)) = some (.int .i64 r1.k) ∧ w'.cell? ⟨(a1.add (i * 4)).block, (a1.add (i * 4)).off + 1, none⟩ = some (sv r1.s) ∧ w'.cell? ⟨(a1.add (i * 4)).block, (a1.add (i * 4)).off + 2, none⟩ = some (.int .i64 r1.n) ∧ w'.cell? ⟨(a1.add (i * 4)).block, (a1.add (i * 4)).off + 3, none⟩ = some (.slice E1 r1.l.length f1) ∧ w'.cell? (a2.add (i * 4)) = some (.int .i64 r2.k) ∧ w'.cell? ⟨(a2.add (i * 4)).block, (a2.add (i * 4)).off + 1, none⟩ = some (sv r2.s) ∧ w'.cell? ⟨(a2.add (i * 4)).block, (a2.add (i * 4)).off + 2, none⟩ = some (.int .i64 r2.n) ∧ w'.cell? ⟨(a2.add (i * 4)).block, (a2.add (i * 4)).off + 3, none⟩ = some (.slice E2 r2.l.length f2) from ⟨hb, (hb.cell (p := ⟨w.heap.size, 3, none⟩) hB1.lt).trans c3, (hb.cell (p := ⟨w.heap.size + 1, 3, none⟩) hB2.lt).trans d3, (hb.cell (by rw [block_of_add]; omega)).trans p0, (hb.cell (by simp only [block_of_add]; omega)).trans p1, (hb.cell (by simp only [block_of_add]; omega)).trans p2, (hb.cell (by simp only [block_of_add]; omega)).trans p3, (hb.cell (by rw [block_of_add]; omega)).trans q0, (hb.cell (by simp only [block_of_add]; omega)).trans q1, (hb.cell (by simp only [block_of_add]; omega)).trans q2, (hb.cell (by simp only [block_of_add]; omega)).trans q3⟩))
              have hS0 : Below wr.heap.size wr wr := Below.refl _ _
              have hlt' : (i : Int) < (m : Int) := by omega
              have hlt2' : (i : Int) < (m' : Int) := by omega
              clear ho hr1 hr2
              go_wp2_with fail
              go_region_held3 (fun w' => Below wr.heap.size wr w' ∧ w'.cell? ⟨w.heap.size, 3, none⟩ = some (.slice (some a1) m c) ∧ w'.cell? ⟨w.heap.size + 1, 3, none⟩ = some (.slice (some a2) m' c') ∧ w'.cell? (a1.add (i * 4)) = some (.int .i64 r1.k) ∧ w'.cell? ⟨(a1.add (i * 4)).block, (a1.add (i * 4)).off + 1, none⟩ = some (sv r1.s) ∧ w'.cell? ⟨(a1.add (i * 4)).block, (a1.add (i * 4)).off + 2, none⟩ = some (.int .i64 r1.n) ∧ w'.cell? ⟨(a1.add (i * 4)).block, (a1.add (i * 4)).off + 3, none⟩ = some (.slice E1 r1.l.length f1) ∧ w'.cell? (a2.add (i * 4)) = some (.int .i64 r2.k) ∧ w'.cell? ⟨(a2.add (i * 4)).block, (a2.add (i * 4)).off + 1, none⟩ = some (sv r2.s) ∧ w'.cell? ⟨(a2.add (i * 4)).block, (a2.add (i * 4)).off + 2, none⟩ = some (.int .i64 r2.n) ∧ w'.cell? ⟨(a2.add (i * 4)).block, (a2.add (i * 4)).off + 3, none⟩ = some (.slice E2 r2.l.length f2)) (first | exact HK.out _ hS0 | exact HK.out _ hS0.drew)
                (first
                  | (go_at_call 21; refine (HC.out _ (by first | exact hS0 | exact hS0.drew)).mono ?_; rintro e w3 ⟨rfl, hb3⟩; have hS0 := below_trans hS0.drew hb3))
              have hb4 := hbel.trans (hS0.mono hbs)
              have hX1 := hB1.below hS0 hB1.lt
              have hX2 := hB2.below hS0 hB2.lt
              by_cases h0 : o = 0
              · subst h0
                go_wp2_with fail
                go_roundw
                case rel =>
                  first
                    | exact ⟨i + 1, by omega, by omega, by go_num, Lib.hid (HQ.out.trans HNX.out), hX1, hX2, hb4⟩
                    | ((repeat apply Exists.intro); exact ⟨⟨i + 1, by omega, by omega, by go_num, Lib.hid (HQ.out.trans HNX.out), hX1, hX2, hb4⟩, rfl⟩)
                case measure => simp [nOf]; omega
              · have hne : (o != 0) = true := by simpa using h0
                have HR : Hid (ords (l.map Rep.norm) (l'.map Rep.norm) = o) := Lib.hid (by rw [HQ.out, HNX.out]; unfold or2; rw [if_pos h0])
                clear h0
                go_wp2_with fail
                go_ret
                exact ⟨ret_int (HO.out.trans HR.out).symm, hb4⟩
            · rcases Nat.lt_trichotomy m m' with h1 | h1 | h1
              · have him2 : i = m := by omega
                subst him2
                have HR := Lib.hid (HO.out.trans (HQ.out.trans (ords_long (by rw [HM.out]; omega) (by rw [HM2.out]; exact h1))))
                have g1 : ((i : Int) != (m' : Int)) = true := by simp; omega
                have g2 : (i : Int) < (m' : Int) := by omega
                clear hlt
                go_wp2_with fail
                refine (sign_t _).mono ?_
                rintro e w9 ⟨rfl, rfl⟩
                go_wp2_with fail
                go_ret
                exact ⟨ret_int HR.out.symm, hbel⟩
              · subst h1
                have him2 : i = m := by omega
                subst him2
                have HR := Lib.hid (HO.out.trans (HQ.out.trans (ords_end (by rw [HM.out]; omega) (by rw [HM2.out]; omega))))
                clear hlt
                go_wp2_with fail
                go_ret
                exact ⟨ret_int HR.out.symm, hbel⟩
              · have him2 : i = m' := by omega
                subst him2
                have HR := Lib.hid (HO.out.trans (HQ.out.trans (ords_short (by rw [HM.out]; exact h1) (by rw [HM2.out]; omega))))
                have g1 : ((m : Int) != (i : Int)) = true := by simp; omega
                have g2 : decide ((m : Int) < (i : Int)) = false := decide_eq_false (by omega)
                have g3 : (i : Int) < (m : Int) := by omega
                clear hlt
                go_wp2_with fail
                try rw [show decide (m < i) = false from decide_eq_false (by omega)]
                refine (sign_f _).mono ?_
                rintro e w9 ⟨rfl, rfl⟩
                go_wp2_with fail
                go_ret
                exact ⟨ret_int HR.out.symm, hbel⟩
      · have hk3 : ¬ k = 3 := by intro e; rw [e] at ht; exact absurd ht (by decide)
        have hd3 : decide (k = 3) = false := by simpa using hk3
        have hp : prt k = false := by
          unfold txt at ht; unfold prt
          have := of_decide_eq_true ht
          exact decide_eq_false (by omega)
        have hsh := fun w => shows_is w ht hd3 hp
        have hO := ord_txt ht s n l s' n' l'
        have hl := less_cmp s s'
        rcases cmpS_val s s' with h | ⟨h, h1⟩ | h
        · rw [h] at hO hl
          have HO := Lib.hid hO
          have hl1 : Op.bytesLess s s' = true := by rw [hl]; rfl
          have hne : (s == s') = false := by
            rw [beq_eq_false_iff_ne]; intro e; rw [e, cmpS_self] at h; exact absurd h (by decide)
          clear hk3 ht hp hd3 h hO hl
          go_enter Try.func21, Try.ntmps21
          go_wp2_with fail
          refine (hsh _).mono ?_
          rintro e w1 ⟨rfl, rfl⟩
          go_wp2_with fail
          refine (sign_t _).mono ?_
          rintro e w9 ⟨rfl, rfl⟩
          go_wp2_with fail
          go_ret
          exact ⟨ret_int HO.out.symm, HB1.out⟩
        · rw [h] at hO
          have HO := Lib.hid hO
          subst h1
          clear hk3 ht hp hd3 h hO hl
          go_enter Try.func21, Try.ntmps21
          go_wp2_with fail
          refine (hsh _).mono ?_
          rintro e w1 ⟨rfl, rfl⟩
          go_wp2_with fail
          go_ret
          exact ⟨ret_int HO.out.symm, HB1.out⟩
        · rw [h] at hO hl
          have HO := Lib.hid hO
          have hl1 : Op.bytesLess s s' = false := by rw [hl]; rfl
          have hne : (s == s') = false := by
            rw [beq_eq_false_iff_ne]; intro e; rw [e, cmpS_self] at h; exact absurd h (by decide)
          clear hk3 ht hp hd3 h hO hl
          go_enter Try.func21, Try.ntmps21
          go_wp2_with fail
          refine (hsh _).mono ?_
          rintro e w1 ⟨rfl, rfl⟩
          go_wp2_with fail
          refine (sign_f _).mono ?_
          rintro e w9 ⟨rfl, rfl⟩
          go_wp2_with fail
          go_ret
          exact ⟨ret_int HO.out.symm, HB1.out⟩
    · have hkb : (k != k') = true := by simpa using hkk
      have hO := ord_kind hkk s n l s' n' l'
      rcases cmpI_val k k' with ⟨h, h1⟩ | ⟨h, h1⟩ | ⟨h, h1⟩
      · rw [h] at hO
        have HO := Lib.hid hO
        clear h hO hkk
        go_enter Try.func21, Try.ntmps21
        go_wp2_with fail
        refine (sign_t _).mono ?_
        rintro e w9 ⟨rfl, rfl⟩
        go_wp2_with fail
        go_ret
        exact ⟨ret_int HO.out.symm, HB1.out⟩
      · exact absurd h1 hkk
      · rw [h] at hO
        have HO := Lib.hid hO
        have hlt : ¬ k < k' := by omega
        clear h hO hkk
        go_enter Try.func21, Try.ntmps21
        go_wp2_with fail
        refine (sign_f _).mono ?_
        rintro e w9 ⟨rfl, rfl⟩
        go_wp2_with fail
        go_ret
        exact ⟨ret_int HO.out.symm, HB1.out⟩
theorem order_is {a b : Rep} {w : World} {cs cs' : List Value} (ha : Liv w a cs) (hb : Liv w b cs') :
    Calls Try.prog 21 #[.agg cs.toArray, .agg cs'.toArray] w fun e w' => e = .returned (.int .i64 (ord a b)) ∧ Below w.heap.size w w' := order_any _ a (Nat.le_refl _) b w cs cs' ha hb
set_option maxRecDepth 100000 in
set_option maxHeartbeats 4000000 in
theorem rsame_any {a b : Rep} {w : World} {cs cs' : List Value} (ha : Liv w a cs) (hb : Liv w b cs') :
    Calls Try.prog 8 #[.agg cs.toArray, .agg cs'.toArray] w fun e w' => e = .returned (.bool (ord a b == 0)) ∧ Below w.heap.size w w' := by
  obtain ⟨A, c, xs, rfl, hk1, hn1, hs1, hlc1, hcm1, hd1, hl1⟩ := ha.fields
  obtain ⟨A', c', xs', rfl, hk2, hn2, hs2, hlc2, hcm2, hd2, hl2⟩ := hb.fields
  have hb1 : Below w.heap.size w ((w.alloc (.cells #[.int .i64 a.k, sv a.s, .int .i64 a.n, .slice A a.l.length c] 25)).alloc (.cells #[.int .i64 b.k, sv b.s, .int .i64 b.n, .slice A' b.l.length c'] 25)) := ((Below.refl _ _).alloc (Nat.le_refl _) _).alloc (by simp) _
  have HB1 := Lib.hid hb1
  have HC := Lib.hid (order_is (ha.below hb1) (hb.below hb1))
  obtain ⟨o, ho⟩ : ∃ o, ord a b = o := ⟨_, rfl⟩
  rw [ho] at HC ⊢
  clear hb1 ha hb hk1 hn1 hs1 hlc1 hcm1 hd1 hl1 hk2 hn2 hs2 hlc2 hcm2 hd2 hl2 ho
  go_enter Try.func8, Try.ntmps8
  go_wp2_with fail
  refine HC.out.mono ?_
  rintro e w1 ⟨rfl, hb2⟩
  go_wp2_with fail
  go_ret
  exact ⟨rfl, HB1.out.trans (hb2.mono HB1.out.size)⟩
end Go.Proofs.Ytjefpnhffdeekaa
