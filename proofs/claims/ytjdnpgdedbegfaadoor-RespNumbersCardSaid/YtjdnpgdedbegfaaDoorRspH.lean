import Derived.Test.YtjdnpgdedbegfaaDoorRspF
import Derived.Maps.AppendAt
/- The rest of a reply's bytes: its block; the walk of rest's line. -/
namespace Go.Proofs.YtjdnpgdedbegfaaDoor
open Go.RowKit Go.Shelf
set_option linter.unusedVariables false

theorem World.setCell_size (w : World) (p : Addr) (u : Value) : (w.setCell p u).heap.size = w.heap.size := by
  unfold World.setCell; simp
theorem _root_.Go.Lib.below_drewN' {B : Nat} {a w : World} (h : Below B a w) (q : Nat) : Below B a (w.drewN q) := ⟨h.os, h.tape, h.output, h.size, h.block⟩
theorem grown_set {w w' : World} (hb : Below w.heap.size w w') (g i : Nat) (u : Value) : w.grownBy (w'.setCell ⟨g, i, none⟩ u) (some g) :=
  ⟨hb.os, hb.tape, hb.output, by rw [World.setCell_size]; exact hb.size, fun k hk hne => (Below.heap_setCell w' _ u k (fun e => hne (by rw [e]))).trans (hb.block k hk)⟩
theorem grown_of {w w' : World} (hb : Below w.heap.size w w') (row : Option Nat) : w.grownBy w' row := ⟨hb.os, hb.tape, hb.output, hb.size, fun k hk _ => hb.block k hk⟩
theorem grown_trans {a b c : World} {row : Option Nat} (h : a.grownBy b row) (k : b.grownBy c row) : a.grownBy c row := h.trans k
/-- Bytes that are read, as a string. -/
theorem reads_string {P : Program} {w : World} {B n cap : Nat} {e src dst : TypeId} {a : Addr} {l : List UInt8} (h : Reads w B 1 (some a) n (bv l)) (hn : n = l.length) (hs : P.underlying src = some (.slice e)) (he : P.underlying e = some (.int .u8)) (hd : P.underlying dst = some .string) :
    (convert src dst (.slice (some a) n cap)).run P w = .ok (.string (bs l)) w := by
  subst hn
  refine run_convert_bytes_back w src dst e a cap l hs he hd (fun j hj => ?_)
  obtain ⟨ad, u, h1, h2, h3, h4⟩ := h.at_ hj
  injection h1 with h1
  subst h1
  rw [h4]
  rw [bv_get l j hj] at h3
  exact h3.symm
theorem Reads.prefix_ {w : World} {B n k : Nat} {a : Addr} {l : List UInt8} (h : Reads w B 1 (some a) n (bv l)) (hk : k ≤ n) : Reads w B 1 (some a) k (bv (l.take k)) := by
  refine ⟨?_, fun h0 => ?_⟩
  · have := h.1
    rw [bv_length] at this ⊢
    rw [List.length_take]; omega
  · obtain ⟨ad, h1, h2, h3⟩ := h.2 (by omega)
    refine ⟨ad, h1, h2, fun j u hu => h3 j u ?_⟩
    rw [show bv (l.take k) = (bv l).take k from by simp [bv, List.map_take], List.getElem?_take] at hu
    split at hu
    · exact hu
    · cases hu
theorem u8_eq (c d : UInt8) : ((c.toNat : Int) == (d.toNat : Int)) = (c == d) := by
  by_cases h : c = d
  · subst h; simp
  · have h2 : ¬ c.toNat = d.toNat := fun e => h (UInt8.toNat_inj.mp e)
    rw [beq_eq_false_iff_ne.mpr (by omega), beq_eq_false_iff_ne.mpr h]
theorem u8_t {c d : UInt8} (n : Int) (hn : (d.toNat : Int) = n) (h : c = d) : ((c.toNat : Int) == n) = true := by rw [← hn, u8_eq, h]; simp
theorem u8_f {c d : UInt8} (n : Int) (hn : (d.toNat : Int) = n) (h : ¬ c = d) : ((c.toNat : Int) == n) = false := by rw [← hn, u8_eq]; simpa using h
theorem u8_nt {c d : UInt8} (n : Int) (hn : (d.toNat : Int) = n) (h : ¬ c = d) : ((c.toNat : Int) != n) = true := by unfold bne; rw [u8_f n hn h]; rfl
theorem u8_nf {c d : UInt8} (n : Int) (hn : (d.toNat : Int) = n) (h : c = d) : ((c.toNat : Int) != n) = false := by unfold bne; rw [u8_t n hn h]; rfl

/-- A rest at the block g: its bytes lie before g; at. -/
def Rst (w : World) (g n c : Nat) (A : Option Addr) (l : List UInt8) (p : Nat) : Prop :=
  Blk w g 53 #[.slice A n c, .int .i64 p] ∧ Reads w g 1 A n (bv l) ∧ n = l.length ∧ n ≤ c ∧ c ≤ maxLen ∧ p ≤ n
theorem Rst.lt {w : World} {g n c : Nat} {A : Option Addr} {l : List UInt8} {p : Nat} (h : Rst w g n c A l p) : g < w.heap.size := h.1.lt
theorem Rst.below {w w' : World} {g n c : Nat} {A : Option Addr} {l : List UInt8} {p : Nat} (h : Rst w g n c A l p) {B : Nat} (hb : Below B w w') (hg : g < B) : Rst w' g n c A l p :=
  ⟨h.1.below hb hg, h.2.1.keep (fun q hq => hb.cell (Nat.lt_trans hq hg)), h.2.2⟩
theorem Rst.step {w : World} {g n c : Nat} {A : Option Addr} {l : List UInt8} {p : Nat} (h : Rst w g n c A l p) (p' : Nat) (hp : p' ≤ n) (x : Int) (hx : x = p') : Rst (w.setCell ⟨g, 1, none⟩ (.int .i64 x)) g n c A l p' := by
  subst hx
  exact ⟨h.1.set_ 1 _, h.2.1.setCell (Nat.le_refl _) _, h.2.2.1, h.2.2.2.1, h.2.2.2.2.1, hp⟩
theorem Rst.byte {w : World} {g n c : Nat} {a : Addr} {l : List UInt8} {p : Nat} (h : Rst w g n c (some a) l p) (k : Nat) (hk : k < n) (v : UInt8) (hv : l[k]? = some v) : w.cell? (a.add k) = some (.int .u8 v.toNat) := by
  obtain ⟨ad, u, h1, h2, h3, h4⟩ := h.2.1.at_ hk
  injection h1 with h1
  subst h1
  obtain ⟨hkl, rfl⟩ := List.getElem?_eq_some_iff.1 hv
  rw [h4, ← h3, bv_get l k hkl]
theorem Rst.some_ {w : World} {g n c : Nat} {A : Option Addr} {l : List UInt8} {p : Nat} (h : Rst w g n c A l p) (hn : 0 < n) : ∃ a, A = some a ∧ a.block < g := by
  obtain ⟨ad, u, h1, h2, h3, h4⟩ := h.2.1.at_ hn
  exact ⟨ad, h1, h2⟩
theorem Rst.part {w : World} {g n c : Nat} {a : Addr} {l : List UInt8} {p : Nat} (h : Rst w g n c (some a) l p) (i k : Nat) (hk : i + k ≤ n) (hn : i < n) : Reads w g 1 (some (a.add i)) k (bv ((l.drop i).take k)) := by
  have h1 := h.2.1.cut (k := i) (cap := c) (by omega) h.2.2.2.1
  rw [if_neg (by have := h.2.2.2.1; omega), Nat.mul_one, show (bv l).drop i = bv (l.drop i) from by simp [bv, List.map_drop]] at h1
  exact Reads.prefix_ h1 (by omega)

/-- A line from p on, looked through up to i. -/
def LAt (l : List UInt8) (p i : Nat) : Prop := Rsp.lnl (l.drop p) = (Rsp.lnl (l.drop i)).map (fun q => ((l.drop p).take (i - p) ++ q.1, q.2))
theorem LAt.start (l : List UInt8) (p : Nat) : LAt l p p := by
  unfold LAt
  rcases Rsp.lnl (l.drop p) with _ | ⟨s, t⟩ <;> simp
theorem drop_at {l : List UInt8} {i : Nat} {v : UInt8} (h : l[i]? = some v) : l.drop i = v :: l.drop (i + 1) := by
  obtain ⟨hi, rfl⟩ := List.getElem?_eq_some_iff.1 h
  exact List.drop_eq_getElem_cons hi
theorem LAt.bad {l : List UInt8} {p i : Nat} (h : LAt l p i) (hv : l[i]? = some 10) : Rsp.lnl (l.drop p) = none := by
  unfold LAt at h
  rw [h, drop_at hv]; simp [Rsp.lnl]
theorem LAt.cut {l : List UInt8} {p i : Nat} (h : LAt l p i) (hi : l.length ≤ i) : Rsp.lnl (l.drop p) = none := by
  unfold LAt at h
  rw [h, List.drop_eq_nil_of_le hi]; simp [Rsp.lnl]
theorem LAt.half {l : List UInt8} {p i : Nat} (h : LAt l p i) (hv : l[i]? = some 13) (hn : ¬ l[i + 1]? = some 10) : Rsp.lnl (l.drop p) = none := by
  unfold LAt at h
  rw [h, drop_at hv]
  unfold Rsp.lnl
  rw [if_neg (by decide), if_pos rfl, List.head?_drop, if_neg hn]; rfl
theorem LAt.hit {l : List UInt8} {p i : Nat} (h : LAt l p i) (hv : l[i]? = some 13) (hn : l[i + 1]? = some 10) : Rsp.lnl (l.drop p) = some ((l.drop p).take (i - p), l.drop (i + 2)) := by
  unfold LAt at h
  rw [h, drop_at hv]
  unfold Rsp.lnl
  rw [if_neg (by decide), if_pos rfl, List.head?_drop, if_pos hn, List.tail_drop]; simp
theorem LAt.next {l : List UInt8} {p i : Nat} (h : LAt l p i) (hp : p ≤ i) {v : UInt8} (hv : l[i]? = some v) (h1 : ¬ v = 10) (h2 : ¬ v = 13) : LAt l p (i + 1) := by
  unfold LAt at h ⊢
  have hi := (List.getElem?_eq_some_iff.1 hv).1
  rw [h, drop_at hv]
  conv => lhs; unfold Rsp.lnl
  rw [if_neg h1, if_neg h2]
  rcases Rsp.lnl (l.drop (i + 1)) with _ | ⟨s, t⟩
  · rfl
  · have e : (l.drop p).take (i + 1 - p) = (l.drop p).take (i - p) ++ [v] := by
      rw [show i + 1 - p = (i - p) + 1 by omega, List.take_add_one, List.getElem?_drop, show p + (i - p) = i by omega, hv]; rfl
    simp [e]
/-- What line gives. -/
def LRet (w' : World) (e : Ending) (g n c : Nat) (A : Option Addr) (l : List UInt8) : Option (List UInt8 × List UInt8) → Prop
  | none => e = .returned (.tuple #[.string ⟨#[]⟩, .bool false])
  | some (s, t) => e = .returned (.tuple #[sv s, .bool true]) ∧ Rst w' g n c A l (n - t.length)

set_option maxRecDepth 100000 in
set_option maxHeartbeats 8000000 in
theorem rline_any {g n c : Nat} {A : Option Addr} {l : List UInt8} {p : Nat} (w : World) (h : Rst w g n c A l p) (hn : n ≤ 1048576) :
    Calls Tryd.prog 33 #[.pointer (some ⟨g, 0, none⟩)] w fun e w' => LRet w' e g n c A l (Rsp.lnl (l.drop p)) ∧ w.grownBy w' (some g) := by
  have hpn : p ≤ n := h.2.2.2.2.2
  have hnc : n ≤ c := h.2.2.2.1
  have hcm : c ≤ 9223372036854775807 := by have := h.2.2.2.2.1; unfold maxLen at this; exact this
  have HNL := Lib.hid h.2.2.1
  have hg := h.lt
  have c0 := h.1.cell 0
  have c1 := h.1.cell 1
  go_enter Tryd.func33, Tryd.ntmps33
  go_wp2_with fail
  go_loopw [4] (fun x wr => ∃ i, p ≤ i ∧ i ≤ n ∧ x = .int .i64 (i : Nat) ∧ wr = w ∧ Hid (LAt l p i)) (fun x _ => n - (intOf x).toNat)
  case atStart => exact ⟨p, Nat.le_refl _, hpn, rfl, rfl, Lib.hid (LAt.start l p)⟩
  case round =>
    obtain ⟨i, hpi, hin, rfl, rfl, HL⟩ := hrel
    rcases Nat.lt_or_ge i n with hlt | hge
    · obtain ⟨a, rfl, hab⟩ := h.some_ (by omega)
      have hlt' : (i : Int) < (n : Int) := by omega
      obtain ⟨v, hv⟩ : ∃ v, l[i]? = some v := ⟨l[i]'(by have := HNL.out; omega), List.getElem?_eq_getElem _⟩
      have cb := h.byte i hlt v hv
      by_cases h10 : v = 10
      · have q1 := u8_t (c := v) (d := 10) 10 rfl h10
        have HR := Lib.hid (HL.out.bad (h10 ▸ hv))
        clear hv h10
        go_wp2_with fail
        go_ret2
        rw [HR.out]
        exact ⟨rfl, grown_of (Below.refl _ _) _⟩
      · have q1 := u8_f (c := v) (d := 10) 10 rfl h10
        by_cases h13 : v = 13
        · have q2 := u8_t (c := v) (d := 13) 13 rfl h13
          have hv' : l[i]? = some 13 := h13 ▸ hv
          by_cases hend : i + 1 = n
          · have q3 : ((i : Int) + 1 == (n : Int)) = true := by simp; omega
            have HR := Lib.hid (HL.out.half hv' (by rw [List.getElem?_eq_none (by have := HNL.out; omega)]; simp))
            clear hv hv' h10 h13 hend
            go_wp2_with fail
            go_ret2
            rw [HR.out]
            exact ⟨rfl, grown_of (Below.refl _ _) _⟩
          · have q3 : ((i : Int) + 1 == (n : Int)) = false := by simp; omega
            have hlt1 : i + 1 < n := by omega
            have hlt2 : (i : Int) + 1 < (n : Int) := by omega
            have hin1 : ((i : Int) + 1).toNat = i + 1 := by omega
            obtain ⟨u, hu⟩ : ∃ u, l[i + 1]? = some u := ⟨l[i + 1]'(by have := HNL.out; omega), List.getElem?_eq_getElem _⟩
            have cb1 := h.byte (i + 1) hlt1 u hu
            have cb2 : wr.cell? ⟨a.block, a.off + (i + 1), none⟩ = some (.int .u8 u.toNat) := by
              have := cb1
              unfold Addr.add at this
              rwa [if_neg (by omega)] at this
            by_cases hu10 : u = 10
            · have q4 := u8_nf (c := u) (d := 10) 10 rfl hu10
              have HR := Lib.hid (HL.out.hit hv' (hu10 ▸ hu))
              have hs := fun N => reads_string (cap := c - p) ((h.part p (i - p) (by omega) (by omega)).drewN N) (by rw [List.length_take, List.length_drop]; have := HNL.out; omega) Tryd.underlying23 Tryd.underlying5 Tryd.underlying9
              have HT := Lib.hid (show n - (l.drop (i + 2)).length = i + 2 by rw [List.length_drop]; have := HNL.out; omega)
              have hcp : ¬ c = p := by omega
              have hp0 : (0 : Int) ≤ (p : Int) := by omega
              have hpi' : (p : Int) ≤ (i : Int) := by omega
              have hic : (i : Int) ≤ (c : Int) := by omega
              have f1 := h.1.frozen 1
              clear hv hv' h10 h13 hend hu10 hu
              go_wp2_with fail
              go_quiet (fail)
              go_wp2_with fail
              go_ret2
              rw [HR.out]
              refine ⟨⟨rfl, ?_⟩, grown_set (Lib.below_drewN' (Below.refl _ _) nq) _ _ _⟩
              rw [HT.out]
              exact Rst.step (w := wr.drewN nq) h (i + 2) (by omega) _ (by omega)
            · have q4 := u8_nt (c := u) (d := 10) 10 rfl hu10
              have HR := Lib.hid (HL.out.half hv' (by rw [hu]; simpa using hu10))
              clear hv hv' h10 h13 hend hu10 hu
              go_wp2_with fail
              go_ret2
              rw [HR.out]
              exact ⟨rfl, grown_of (Below.refl _ _) _⟩
        · have q2 := u8_f (c := v) (d := 13) 13 rfl h13
          have HX := Lib.hid (HL.out.next hpi hv h10 h13)
          clear hv h10 h13
          go_wp2_with fail
          go_roundw
          case rel =>
            exact ⟨i + 1, by omega, by omega, by go_num, by first | trivial | rfl, HX⟩
          case measure => simp [intOf]; omega
    · have HR := Lib.hid (HL.out.cut (by have := HNL.out; omega))
      go_wp2_with fail
      go_ret2
      rw [HR.out]
      exact ⟨rfl, grown_of (Below.refl _ _) _⟩
end Go.Proofs.YtjdnpgdedbegfaaDoor
/- The walk of rest's bulk. -/
namespace Go.Proofs.YtjdnpgdedbegfaaDoor
open Go.RowKit Go.Shelf
set_option linter.unusedVariables false

/-- What bulk gives. -/
def BuRet (w' : World) (e : Ending) (g n c : Nat) (A : Option Addr) (l : List UInt8) : Option (Rep × List UInt8) → Prop
  | none => ∃ s, e = .returned (.tuple #[sv s, .bool false])
  | some (r, t) => e = .returned (.tuple #[sv r.s, .bool true]) ∧ r = .mk 4 r.s 0 [] ∧ Rst w' g n c A l (n - t.length)

theorem ret_sb {a a' : ByteArray} {b b' : Bool} (h1 : a = a') (h2 : b = b') : Ending.returned (.tuple #[.string a, .bool b]) = .returned (.tuple #[.string a', .bool b']) := by rw [h1, h2]

set_option maxRecDepth 100000 in
set_option maxHeartbeats 8000000 in
theorem rbulk_any {g n c : Nat} {A : Option Addr} {l : List UInt8} {p : Nat} (x : Int) (w : World) (h : Rst w g n c A l p) (hn : n ≤ 1048576) (hx : fits x) :
    Calls Tryd.prog 35 #[.pointer (some ⟨g, 0, none⟩), .int .i64 x] w fun e w' => BuRet w' e g n c A l (Rsp.bulk x (l.drop p)) ∧ w.grownBy w' (some g) := by
  have hpn : p ≤ n := h.2.2.2.2.2
  have hnc : n ≤ c := h.2.2.2.1
  have hcm : c ≤ 9223372036854775807 := by have := h.2.2.2.2.1; unfold maxLen at this; exact this
  have HNL := Lib.hid h.2.2.1
  have hdl := Lib.hid (show (l.drop p).length = n - p by rw [List.length_drop]; have := HNL.out; omega)
  have hg := h.lt
  have c0 := h.1.cell 0
  have c1 := h.1.cell 1
  obtain ⟨hx1, hx2⟩ := hx
  by_cases hx0 : x < 0
  · have HR := Lib.hid (show Rsp.bulk x (l.drop p) = none by unfold Rsp.bulk; rw [if_pos (.inl hx0)])
    go_enter Tryd.func35, Tryd.ntmps35
    go_wp2_with fail
    go_quiet (fail)
    go_wp2_with fail
    go_ret2
    rw [HR.out]
    exact ⟨⟨_, rfl⟩, grown_of (Lib.below_drewN' (Below.refl _ _) nq) _⟩
  · obtain ⟨k, rfl⟩ : ∃ k : Nat, x = (k : Int) := ⟨x.toNat, by omega⟩
    obtain ⟨m, hm⟩ : ∃ m, n - p = m := ⟨_, rfl⟩
    have hs1 : IntKind.i64.wrap ((n : Int) - (p : Int)) = (m : Int) := by rw [IntKind.wrap_i64]; omega
    have hs2 : IntKind.i64.wrap ((m : Int) - 2) = (m : Int) - 2 := by rw [IntKind.wrap_i64]; omega
    have hk0 : ¬ (k : Int) < 0 := by omega
    by_cases hbig : (m : Int) - 2 < (k : Int)
    · have HR := Lib.hid (show Rsp.bulk (k : Int) (l.drop p) = none by unfold Rsp.bulk; rw [if_pos (.inr (by rw [hdl.out]; omega))])
      clear hm hx0
      go_enter Tryd.func35, Tryd.ntmps35
      go_wp2_with fail
      go_quiet (fail)
      go_wp2_with fail
      go_ret2
      rw [HR.out]
      exact ⟨⟨_, rfl⟩, grown_of (Lib.below_drewN' (Below.refl _ _) nq) _⟩
    · obtain ⟨a, rfl, hab⟩ := h.some_ (by omega)
      obtain ⟨q, hq⟩ : ∃ q, p + k = q := ⟨_, rfl⟩
      have hs3 : IntKind.i64.wrap ((p : Int) + (k : Int)) = (q : Int) := by rw [IntKind.wrap_i64]; omega
      have hs4 : IntKind.i64.wrap ((q : Int) + 2) = (q : Int) + 2 := by rw [IntKind.wrap_i64]; omega
      have hs5 : ((q : Int) + 2).toNat = q + 2 := by omega
      have b1 : (0 : Int) ≤ (p : Int) := by omega
      have b2 : (p : Int) ≤ (q : Int) := by omega
      have b3 : (q : Int) ≤ (c : Int) := by omega
      have b4 : (0 : Int) ≤ (q : Int) := by omega
      have b5 : (q : Int) ≤ (q : Int) + 2 := by omega
      have b6 : (q : Int) + 2 ≤ (c : Int) := by omega
      have b7 : ¬ c = p := by omega
      have b8 : ¬ c = q := by omega
      have b9 : q ≤ 1048576 := by omega
      have hqp : q - p = k := by omega
      obtain ⟨last, hlast⟩ : ∃ last, (l.drop q).take 2 = last := ⟨_, rfl⟩
      have HL1 := Lib.hid (show q - p = ((l.drop p).take (q - p)).length by rw [List.length_take, List.length_drop]; have := HNL.out; omega)
      have HL2 := Lib.hid (show 2 = last.length by rw [← hlast, List.length_take, List.length_drop]; have := HNL.out; omega)
      have HLast := Lib.hid hlast
      have hbk : Rsp.bulk (k : Int) (l.drop p) = if last = [13, 10] then some (.mk 4 ((l.drop p).take (q - p)) 0 [], l.drop (q + 2)) else none := by
        unfold Rsp.bulk
        rw [if_neg (by rw [hdl.out]; omega)]
        simp only [Int.toNat_natCast, List.drop_drop, hq, hqp, show p + (k + 2) = q + 2 by omega, hlast]
      have HT := Lib.hid (show n - (l.drop (q + 2)).length = q + 2 by rw [List.length_drop]; have := HNL.out; omega)
      have HB := Lib.hid hbk
      have hqn : q + 2 ≤ n := by omega
      have f1 := h.1.frozen 1
      have HK := Lib.hid (show (p : Int) + ((k : Int) + 2) = ((q + 2 : Nat) : Int) by omega)
      have hs6 : IntKind.i64.wrap ((k : Int) + 2) = (k : Int) + 2 := by rw [IntKind.wrap_i64]; omega
      clear hm hx0 hq hlast hbk hqp
      go_enter Tryd.func35, Tryd.ntmps35
      go_wp2_with fail
      go_quiet (fail)
      go_wp2_with fail
      have h2 : Rst (w.drewN nq) g n c (some a) l p := h
      have hbw : Below w.heap.size w (w.drewN nq) := Lib.below_drewN' (Below.refl _ _) nq
      clear c0 c1 f1
      obtain ⟨w2, hw2⟩ : ∃ w2, w.drewN nq = w2 := ⟨_, rfl⟩
      rw [hw2] at h2 hbw ⊢
      clear hw2
      have hc1 := fun N => reads_string (cap := c - p) ((h2.part p (q - p) (by omega) (by omega)).drewN N) HL1.out Tryd.underlying23 Tryd.underlying5 Tryd.underlying9
      have hc2 := fun N => reads_string (cap := c - q) (HLast.out ▸ (h2.part q 2 (by omega) (by omega)).drewN N) HL2.out Tryd.underlying23 Tryd.underlying5 Tryd.underlying9
      have c0' := h2.1.cell 0
      have c1' := h2.1.cell 1
      have f1' := h2.1.frozen 1
      go_quiet (fail)
      go_wp2_with fail
      go_ret2
      have hw : wrap64 ((p : Int) + ((k : Int) + 2)) = ((q + 2 : Nat) : Int) := by have := HK.out; unfold wrap64; omega
      rw [hw, HB.out]
      have hgw := grown_set (Lib.below_drewN' hbw nq) g 1 (.int .i64 ((q + 2 : Nat) : Int))
      by_cases hl : last = [13, 10]
      · rw [if_pos hl]
        refine ⟨⟨by rw [hl]; rfl, rfl, ?_⟩, hgw⟩
        rw [HT.out]
        exact Rst.step (w := w2.drewN nq) h2 (q + 2) hqn _ rfl
      · rw [if_neg hl]
        exact ⟨⟨(l.drop p).take (q - p), ret_sb rfl (beq_eq_false_iff_ne.mpr hl)⟩, hgw⟩
end Go.Proofs.YtjdnpgdedbegfaaDoor
