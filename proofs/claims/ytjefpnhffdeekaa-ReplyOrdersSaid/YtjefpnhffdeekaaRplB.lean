/- The walks of cmp.Or, slices.CompareFunc (of replies, by compare). -/
import Derived.Test.YtjefpnhffdeekaaRplA
namespace Go.Proofs.Ytjefpnhffdeekaa
open Go.RowKit
set_option linter.unusedVariables false

def nOf : Value → Int
  | .int _ n => n
  | _ => 0
def orL : List Int → Int
  | [] => 0
  | a :: t => or2 a (orL t)
theorem orL_skip {xs : List Int} {k : Nat} (hk : k < xs.length) (h0 : xs[k] = 0) : orL (xs.drop k) = orL (xs.drop (k + 1)) := by
  rw [List.drop_eq_getElem_cons hk, orL, h0, or2_zero]
theorem orL_hit {xs : List Int} {k : Nat} (hk : k < xs.length) (h0 : xs[k] ≠ 0) : orL (xs.drop k) = xs[k] := by
  rw [List.drop_eq_getElem_cons hk, orL]; unfold or2; rw [if_pos h0]

set_option maxRecDepth 100000 in
set_option maxHeartbeats 1000000 in
theorem or_any (xs : List Int) (g n : Nat) (w : World) (hn : xs.length = n) (hn1 : n ≤ 1000) (hc : ∀ k (hk : k < xs.length), w.cell? ⟨g, k, none⟩ = some (.int .i64 xs[k])) :
    Calls Try.prog 28 #[.slice (some ⟨g, 0, none⟩) n n] w fun e w' => e = .returned (.int .i64 (orL xs)) ∧ w = w' := by
  have HN := Lib.hid hn
  have HC := Lib.hid hc
  clear hn hc
  go_enter Try.func28, Try.ntmps28
  go_wp2_with fail
  go_loopw [8] (fun x wr => ∃ k, x = .int .i64 (k : Nat) ∧ k ≤ n ∧ Hid (orL xs = orL (xs.drop k)) ∧ wr = w) (fun x _ => n - (nOf x).toNat)
  case atStart => exact ⟨0, rfl, by omega, Lib.hid rfl, rfl⟩
  case round =>
    obtain ⟨k, rfl, hk, HO, rfl⟩ := hrel
    by_cases hlt : k < n
    · have hkl : k < xs.length := by rw [HN.out]; exact hlt
      have i1 : (k : Int) < (n : Int) := by omega
      have hcell := HC.out k hkl
      obtain ⟨x, hx⟩ : ∃ x, xs[k] = x := ⟨_, rfl⟩
      rw [hx] at hcell
      by_cases h0 : x = 0
      · have HS := Lib.hid (orL_skip hkl (hx.trans h0))
        subst h0
        clear hx
        go_wp2_with fail
        go_roundw
        case rel => exact ⟨k + 1, by go_num, by omega, Lib.hid (HO.out.trans HS.out), trivial⟩
        case measure => simp [nOf]; omega
      · have HS := Lib.hid ((orL_hit hkl (by rw [hx]; exact h0)).trans hx)
        have hne : (x != 0) = true := by simpa using h0
        clear hx h0
        go_wp2_with fail
        go_ret
        exact ⟨ret_int (by rw [HO.out, HS.out]), rfl⟩
    · have hkn : k = n := by omega
      have i1 : ¬ (k : Int) < (n : Int) := by omega
      have HS : Hid (orL (xs.drop k) = 0) := Lib.hid (by rw [List.drop_eq_nil_of_le (by rw [HN.out]; omega)]; rfl)
      clear hkn
      go_wp2_with fail
      go_ret
      exact ⟨ret_int (by rw [HO.out, HS.out]), rfl⟩

/-- A slice of replies as it is read. -/
def LivL (w : World) (v : Value) (l : List Rep) : Prop :=
  ∃ A c xs, v = .slice A l.length c ∧ l.length ≤ c ∧ c ≤ maxLen ∧ RD w (fun b => b < w.heap.size) A l.length xs ∧ RLs w (fun b => b < w.heap.size) l xs
theorem LivL.below {w w' : World} {v : Value} {l : List Rep} (h : LivL w v l) (hb : Below w.heap.size w w') : LivL w' v l := by
  obtain ⟨A, c, xs, h1, h2, h3, h4, h5⟩ := h
  exact ⟨A, c, xs, h1, h2, h3, (h4.keep (fun p hp => hb.cell hp)).mono (fun b hb' => Nat.lt_of_lt_of_le hb' hb.size), (h5.keep (fun p hp => hb.cell hp)).mono (fun b hb' => Nat.lt_of_lt_of_le hb' hb.size)⟩
theorem LivL.nil (w : World) : LivL w (.slice none 0 0) [] := ⟨none, 0, [], rfl, Nat.le_refl _, Nat.zero_le _, RD.nil _ _ _, RLs.nil⟩
theorem Liv.parts {w : World} {k n : Int} {s : List UInt8} {l : List Rep} {cs : List Value} (h : Liv w (.mk k s n l) cs) : ∃ L, cs = [.int .i64 k, sv s, .int .i64 n, L] ∧ LivL w L l ∧ fits k ∧ fits n ∧ s.length ≤ maxLen := by
  obtain ⟨A, c, xs, h1, h2, h3, h4, h5, h6, h7, h8⟩ := h.fields
  exact ⟨_, h1, ⟨A, c, xs, rfl, h5, h6, h7, h8⟩, h2, h3, h4⟩
/-- What compare asks and gives. -/
def CmpAt (f : FuncId) (a : Rep) : Prop := ∀ (b : Rep) (w : World) (cs cs' : List Value), Liv w a cs → Liv w b cs' →
  Calls Try.prog f #[.agg cs.toArray, .agg cs'.toArray] w fun e w' => e = .returned (.int .i64 (ord a b)) ∧ Below w.heap.size w w'
theorem ords_next {l m : List Rep} {i : Nat} {a b : Rep} (ha : l[i]? = some a) (hb : m[i]? = some b) :
    ords ((l.drop i).map Rep.norm) ((m.drop i).map Rep.norm) = or2 (ord a b) (ords ((l.drop (i + 1)).map Rep.norm) ((m.drop (i + 1)).map Rep.norm)) := by
  obtain ⟨h1, h2⟩ := List.getElem?_eq_some_iff.1 ha
  obtain ⟨h3, h4⟩ := List.getElem?_eq_some_iff.1 hb
  rw [List.drop_eq_getElem_cons h1, List.drop_eq_getElem_cons h3, h2, h4, List.map_cons, List.map_cons, ords]; rfl
theorem ords_short {l m : List Rep} {i : Nat} (h1 : i < l.length) (h2 : m.length ≤ i) : ords ((l.drop i).map Rep.norm) ((m.drop i).map Rep.norm) = 1 := by
  rw [List.drop_eq_getElem_cons h1, List.drop_eq_nil_of_le h2, List.map_cons, List.map_nil, ords]
theorem ords_long {l m : List Rep} {i : Nat} (h1 : l.length ≤ i) (h2 : i < m.length) : ords ((l.drop i).map Rep.norm) ((m.drop i).map Rep.norm) = -1 := by
  rw [List.drop_eq_nil_of_le h1, List.drop_eq_getElem_cons h2, List.map_cons, List.map_nil, ords]
theorem ords_end {l m : List Rep} {i : Nat} (h1 : l.length ≤ i) (h2 : m.length ≤ i) : ords ((l.drop i).map Rep.norm) ((m.drop i).map Rep.norm) = 0 := by
  rw [List.drop_eq_nil_of_le h1, List.drop_eq_nil_of_le h2, List.map_nil, ords]

set_option maxRecDepth 100000 in
set_option maxHeartbeats 8000000 in
theorem cmpf_any (l m : List Rep) (v u : Value) (w : World) (hl : LivL w v l) (hm : LivL w u m) (ih : ∀ a ∈ l, CmpAt 14 a) :
    Calls Try.prog 18 #[v, u, .func (.func 14) #[] #[]] w fun e w' => e = .returned (.int .i64 (ords (l.map Rep.norm) (m.map Rep.norm))) ∧ Below w.heap.size w w' := by
  obtain ⟨A, c, xs, rfl, hlc, hcm, hd1, hl1⟩ := hl
  obtain ⟨A', c', xs', rfl, hlc', hcm', hd2, hl2⟩ := hm
  obtain ⟨n, hn⟩ : ∃ n, l.length = n := ⟨_, rfl⟩
  obtain ⟨n', hn'⟩ : ∃ n, m.length = n := ⟨_, rfl⟩
  have HN := Lib.hid hn
  have HN' := Lib.hid hn'
  have HIH := Lib.hid ih
  rw [hn] at hd1 hlc ⊢
  rw [hn'] at hd2 hlc' ⊢
  have HD1 := Lib.hid hd1
  have HD2 := Lib.hid hd2
  have HL1 := Lib.hid hl1
  have HL2 := Lib.hid hl2
  clear hn hn' ih hd1 hd2 hl1 hl2
  unfold maxLen at hcm hcm'
  go_enter Try.func18, Try.ntmps18
  go_wp2_with fail
  go_loopw [13] (fun x wr => ∃ i, x = .int .i64 (i : Nat) ∧ i ≤ n ∧ i ≤ n' ∧ Hid (ords (l.map Rep.norm) (m.map Rep.norm) = ords ((l.drop i).map Rep.norm) ((m.drop i).map Rep.norm)) ∧ Below w.heap.size w wr) (fun x _ => n - (nOf x).toNat)
  case atStart => exact ⟨0, rfl, by omega, by omega, Lib.hid rfl, Below.refl _ _⟩
  case round =>
    obtain ⟨i, rfl, hi, hi', HO, hbel⟩ := hrel
    rcases Nat.lt_or_ge i n with hlt | hge
    · have i1 : (i : Int) < (n : Int) := by omega
      obtain ⟨a1, r1, E1, f1, rfl, hSa1, hr1, hv1, p0, p1, p2, p3⟩ := (HD1.out.keep (fun p hp => hbel.cell hp)).at_ (HL1.out.keep (fun p hp => hbel.cell hp)) HN.out hlt
      rcases Nat.lt_or_ge i n' with hlt' | hge'
      · have i2 : ¬ (n' : Int) ≤ (i : Int) := by omega
        obtain ⟨a2, r2, E2, f2, rfl, hSa2, hr2, hv2, q0, q1, q2, q3⟩ := (HD2.out.keep (fun p hp => hbel.cell hp)).at_ (HL2.out.keep (fun p hp => hbel.cell hp)) HN'.out hlt'
        have HX := Lib.hid (ords_next hr1 hr2)
        have HB := Lib.hid hbel
        have hb1 : Below wr.heap.size wr ((wr.alloc (.cells #[.int .i64 r1.k, sv r1.s, .int .i64 r1.n, .slice E1 r1.l.length f1] 25)).alloc (.cells #[.int .i64 r2.k, sv r2.s, .int .i64 r2.n, .slice E2 r2.l.length f2] 25)) := ((Below.refl _ _).alloc (Nat.le_refl _) _).alloc (by simp) _
        have HC := Lib.hid (HIH.out r1 (List.mem_of_getElem? hr1) r2 _ _ _ (Liv.below (hv1.mono (fun b hb => Nat.lt_of_lt_of_le hb hbel.size)) hb1) (Liv.below (hv2.mono (fun b hb => Nat.lt_of_lt_of_le hb hbel.size)) hb1))
        have HB1 := Lib.hid hb1
        obtain ⟨o, ho⟩ : ∃ o, ord r1 r2 = o := ⟨_, rfl⟩
        rw [ho] at HC HX
        have hq1 : a1.block < wr.heap.size := Nat.lt_of_lt_of_le hSa1 hbel.size
        have hq2 : a2.block < wr.heap.size := Nat.lt_of_lt_of_le hSa2 hbel.size
        have hbA : Below wr.heap.size wr (wr.alloc (.cells #[.int .i64 r1.k, sv r1.s, .int .i64 r1.n, .slice E1 r1.l.length f1] 25)) := (Below.refl _ _).alloc (Nat.le_refl _) _
        have z0 := (hbA.cell (p := a2.add (i * 4)) (by rw [block_of_add]; exact hq2)).trans q0
        have z1 := (hbA.cell (p := ⟨(a2.add (i * 4)).block, (a2.add (i * 4)).off + 1, none⟩) (by simp only [block_of_add]; exact hq2)).trans q1
        have z2 := (hbA.cell (p := ⟨(a2.add (i * 4)).block, (a2.add (i * 4)).off + 2, none⟩) (by simp only [block_of_add]; exact hq2)).trans q2
        have z3 := (hbA.cell (p := ⟨(a2.add (i * 4)).block, (a2.add (i * 4)).off + 3, none⟩) (by simp only [block_of_add]; exact hq2)).trans q3
        clear hbel hb1 hv1 hv2 hr1 hr2 ho hbA q0 q1 q2 q3
        by_cases h0 : o = 0
        · subst h0
          go_wp2_with fail
          refine HC.out.mono ?_
          rintro e w3 ⟨rfl, hb3⟩
          have HB3 := Lib.hid (HB.out.trans ((HB1.out.trans (hb3.mono HB1.out.size)).mono HB.out.size))
          clear hb3
          go_wp2_with fail
          go_roundw
          case rel => exact ⟨i + 1, by go_num, by omega, by omega, Lib.hid (HO.out.trans HX.out), HB3.out⟩
          case measure => simp [nOf]; omega
        · have hne : (o != 0) = true := by simpa using h0
          have HR : Hid (ords (l.map Rep.norm) (m.map Rep.norm) = o) := Lib.hid (by rw [HO.out, HX.out]; unfold or2; rw [if_pos h0])
          clear h0
          go_wp2_with fail
          refine HC.out.mono ?_
          rintro e w3 ⟨rfl, hb3⟩
          have HB3 := Lib.hid (HB.out.trans ((HB1.out.trans (hb3.mono HB1.out.size)).mono HB.out.size))
          clear hb3
          go_wp2_with fail
          go_ret
          exact ⟨ret_int HR.out.symm, HB3.out⟩
      · have i2 : (n' : Int) ≤ (i : Int) := by omega
        have HR := Lib.hid (HO.out.trans (ords_short (by rw [HN.out]; exact hlt) (by rw [HN'.out]; exact hge')))
        have HB := Lib.hid (hbel.alloc hbel.size (.cells #[.int .i64 r1.k, sv r1.s, .int .i64 r1.n, .slice E1 r1.l.length f1] 25))
        clear hbel hv1 hr1
        go_wp2_with fail
        go_ret
        exact ⟨ret_int HR.out.symm, HB.out⟩
    · have i1 : ¬ (i : Int) < (n : Int) := by omega
      have HB := Lib.hid hbel
      clear hbel
      rcases Nat.lt_or_ge n n' with hlt' | hge'
      · have i2 : (n : Int) < (n' : Int) := by omega
        have HR := Lib.hid (HO.out.trans (ords_long (by rw [HN.out]; exact hge) (by rw [HN'.out]; omega)))
        go_wp2_with fail
        go_ret
        exact ⟨ret_int HR.out.symm, HB.out⟩
      · have i2 : ¬ (n : Int) < (n' : Int) := by omega
        have HR := Lib.hid (HO.out.trans (ords_end (by rw [HN.out]; exact hge) (by rw [HN'.out]; omega)))
        go_wp2_with fail
        go_ret
        exact ⟨ret_int HR.out.symm, HB.out⟩
end Go.Proofs.Ytjefpnhffdeekaa
