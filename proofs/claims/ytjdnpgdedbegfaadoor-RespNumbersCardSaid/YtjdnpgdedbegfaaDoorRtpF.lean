import Derived.Test.YtjdnpgdedbegfaaDoorRtpC
import Derived.Test.YtjdnpgdedbegfaaDoorRefn
/- The walks of the reference's coder of replies: a line. -/
namespace Go.Proofs.YtjdnpgdedbegfaaDoor
open Go.RowKit Go.Shelf
set_option linter.unusedVariables false

/-- The text half done. -/
def half (l : List UInt8) (k : Nat) : List UInt8 := (cln l).take k ++ l.drop k
theorem half_len (l : List UInt8) (k : Nat) : (half l k).length = l.length := by
  unfold half; rw [List.length_append, List.length_take, List.length_drop, cln_len]; omega
theorem half_zero (l : List UInt8) : half l 0 = l := by simp [half]
theorem half_all (l : List UInt8) (k : Nat) (h : l.length ≤ k) : half l k = cln l := by
  unfold half; rw [List.take_of_length_le (by rw [cln_len]; exact h), List.drop_eq_nil_of_le h, List.append_nil]
theorem half_get (l : List UInt8) (k : Nat) (h : k < l.length) : (half l k)[k]? = some l[k] := by
  unfold half
  rw [List.getElem?_append_right (by simp; omega)]
  have e : k - ((cln l).take k).length = 0 := by rw [List.length_take, cln_len]; omega
  rw [e, List.getElem?_drop, Nat.add_zero, List.getElem?_eq_getElem h]
theorem lin_get (l : List UInt8) (k : Nat) (h : k < l.length) : (cln l)[k]? = some (if l[k] = 13 ∨ l[k] = 10 then 32 else l[k]) := by
  unfold cln ones
  rw [List.getElem?_map, List.getElem?_map, List.getElem?_eq_getElem h]
  simp only [Option.map_some, one]
  by_cases h1 : l[k] = 13
  · simp [h1]
  · by_cases h2 : l[k] = 10 <;> simp [h1, h2]
theorem half_next (l : List UInt8) (k : Nat) (h : k < l.length) : half l (k + 1) = (cln l).take k ++ (if l[k] = 13 ∨ l[k] = 10 then 32 else l[k]) :: l.drop (k + 1) := by
  unfold half
  rw [List.take_add_one, lin_get l k h]; simp
theorem half_same (l : List UInt8) (k : Nat) (h : k < l.length) (h1 : ¬ (l[k] = 13 ∨ l[k] = 10)) : half l (k + 1) = half l k := by
  rw [half_next l k h, if_neg h1]; unfold half; rw [List.drop_eq_getElem_cons h]
theorem half_set (l : List UInt8) (k : Nat) (h : k < l.length) (h1 : l[k] = 13 ∨ l[k] = 10) : half l (k + 1) = (half l k).set k 32 := by
  rw [half_next l k h, if_pos h1]; unfold half
  have e : ((cln l).take k).length = k := by rw [List.length_take, cln_len]; omega
  rw [List.set_append_right _ _ (by omega), e, Nat.sub_self, List.drop_eq_getElem_cons h, List.set_cons_zero]

set_option maxRecDepth 100000 in
set_option maxHeartbeats 4000000 in
theorem ref_line (l : List UInt8) (w : World) (hl : l.length ≤ 1048576) :
    Calls Tryd.prog 27 #[.string (bs l)] w fun e w' => e = .returned (sv (cln l)) ∧ Below w.heap.size w w' := by
  have hcv := run_bytes_of_string (P := Tryd.prog) w 9 23 5 (bs l) Tryd.underlying9 Tryd.underlying23 Tryd.underlying5
  have hob0 := OB.of_convert (w := w) (bs l) 5 w.heap.size (Nat.le_refl _) (by rw [bs_size]; unfold maxLen; omega)
  have hb0 : Below w.heap.size w (w.drew.alloc (.cells (bytesRow (bs l) (grownCap w (bs l).size 0 5)) 5 ((bytesRow (bs l) (grownCap w (bs l).size 0 5)).size, (bytesRow (bs l) (grownCap w (bs l).size 0 5)).size + 1))) := ((Below.refl _ _).drew).alloc (Nat.le_refl _) _
  generalize w.drew.alloc (.cells (bytesRow (bs l) (grownCap w (bs l).size 0 5)) 5 ((bytesRow (bs l) (grownCap w (bs l).size 0 5)).size, (bytesRow (bs l) (grownCap w (bs l).size 0 5)).size + 1)) = W0 at hcv hob0 hb0
  generalize grownCap w (bs l).size 0 5 = cap at hcv hob0
  rw [bs_size] at hcv hob0
  have hob1 : OB W0 w.heap.size 5 (.slice (some ⟨w.heap.size, 0, none⟩) l.length cap) (half l 0) := by rw [half_zero]; exact hob0
  obtain ⟨N, hN⟩ : ∃ N, l.length = N := ⟨_, rfl⟩
  have HN := Lib.hid hN
  have Hob := Lib.hid hob1
  have Hb0 := Lib.hid hb0
  rw [hN] at hcv Hob hl
  clear hob0 hob1 hb0 hN
  go_enter Tryd.func27, Tryd.ntmps27
  go_wp2_with fail
  go_loopw [4] (fun x wr => ∃ k, x = .int .i64 (k : Nat) ∧ k ≤ N ∧ OB wr w.heap.size 5 (.slice (some ⟨w.heap.size, 0, none⟩) N cap) (half l k) ∧ Below w.heap.size w wr) (fun x _ => N - (intOf x).toNat)
  case atStart => exact ⟨0, rfl, by omega, Hob.out, Hb0.out⟩
  case round =>
    clear hcv Hob Hb0
    obtain ⟨k, rfl, hk, hob, hbel⟩ := hrel
    have hob' := hob
    unfold OB at hob'
    rw [half_len, HN.out] at hob'
    rcases Nat.lt_or_ge k N with hlt | hge
    · have hkl : k < l.length := by rw [HN.out]; exact hlt
      have hc := hob'.cellAt k (by omega)
      have hf := hob'.frozenAt k (by omega)
      rw [show (bv (half l k))[k]? = some (Value.int .u8 (l[k].toNat : Nat)) by rw [bv, List.getElem?_map, half_get l k hkl]; rfl] at hc
      obtain ⟨u, hu⟩ : ∃ u, l[k].toNat = u := ⟨_, rfl⟩
      have HU := Lib.hid hu
      rw [hu] at hc
      have hlt' : (k : Int) < (N : Int) := by omega
      have hset := Lib.hid (Own.stored hob' k (.int .u8 32))
      have hob2 := Lib.hid (fun (h : l[k] = 13 ∨ l[k] = 10) => (show OB (wr.setCell ⟨w.heap.size, k, none⟩ (.int .u8 32)) w.heap.size 5 (.slice (some ⟨w.heap.size, 0, none⟩) N cap) (half l (k + 1)) from OB.mk hset.out (by rw [half_set l k hkl h, bv, bv, List.map_set]; rfl)))
      have Hob := Lib.hid hob
      have Hbel := Lib.hid (hbel.setCell (Nat.le_refl _) (p := ⟨w.heap.size, k, none⟩) (.int .u8 32))
      have Hbe := Lib.hid hbel
      clear hu hob hob' hbel hset
      by_cases h13 : u = 13
      · have e13 : l[k] = 13 := UInt8.toNat_inj.1 (by rw [HU.out, h13]; rfl)
        subst h13
        go_wp2_with fail
        go_roundw
        case rel => exact ⟨k + 1, by go_num, by omega, hob2.out (.inl e13), Hbel.out⟩
        case measure => simp [intOf]; omega
      · by_cases h10 : u = 10
        · have e10 : l[k] = 10 := UInt8.toNat_inj.1 (by rw [HU.out, h10]; rfl)
          subst h10
          go_wp2_with fail
          go_roundw
          case rel => exact ⟨k + 1, by go_num, by omega, hob2.out (.inr e10), Hbel.out⟩
          case measure => simp [intOf]; omega
        · have h13' : ¬ (u : Int) = 13 := by omega
          have h10' : ¬ (u : Int) = 10 := by omega
          have b13 : ((u : Int) == 13) = false := by simpa using h13'
          have b10 : ((u : Int) == 10) = false := by simpa using h10'
          have hs := Lib.hid (half_same l k hkl (by
            rintro (h | h)
            · exact h13 (by rw [← HU.out, h]; rfl)
            · exact h10 (by rw [← HU.out, h]; rfl)))
          go_wp2_with fail
          go_roundw
          case rel => exact ⟨k + 1, by go_num, by omega, by rw [hs.out]; exact Hob.out, Hbe.out⟩
          case measure => simp [intOf]; omega
    · have hcs := hob.string (P := Tryd.prog) Tryd.underlying23 Tryd.underlying5 Tryd.underlying9
      rw [half_all l k (by rw [HN.out]; exact hge)] at hcs
      have Hbe := Lib.hid hbel
      have hge' : ¬ (k : Int) < (N : Int) := by omega
      clear hob hob' hbel
      go_wp2_with fail
      go_ret
      exact ⟨rfl, Hbe.out⟩
end Go.Proofs.YtjdnpgdedbegfaaDoor
/- The walks of the reference's coder of replies: many, Encode. -/
namespace Go.Proofs.YtjdnpgdedbegfaaDoor
open Go.RowKit Go.Shelf
set_option linter.unusedVariables false

/-- What the reference's Encode asks and gives. -/
def EncAt (r : Rep) : Prop := ∀ (t : Bool) (vn : Int) (w : World) (cs : List Value), Liv w r cs → (vn == 3) = t → fits vn → (enc t r).length ≤ 1048576 →
  Calls Tryd.prog 19 #[.agg cs.toArray, .int .i64 vn] w fun e w' => e = .returned (sv (enc t r)) ∧ Below w.heap.size w w'

set_option maxRecDepth 100000 in
set_option maxHeartbeats 8000000 in
theorem ref_many (c : UInt8) (nn M N cap : Nat) (t : Bool) (vn : Int) (l : List Rep) (ih : ∀ r ∈ l, EncAt r) (hN : l.length = N) (hMN : M ≤ N) (hNc : M ≤ 1048576) (w : World) (A : Option Addr) (xs : List Value)
    (hd : RD w (fun b => b < w.heap.size) A N xs) (hl : RLs w (fun b => b < w.heap.size) l xs) (hvn : (vn == 3) = t) (hfv : fits vn) (hnn : nn ≤ 1048576) (hlen : (hdr c nn ++ encs t M l).length ≤ 1048576) :
    Calls Tryd.prog 29 #[.string ⟨#[c]⟩, .int .i64 nn, .slice A M cap, .int .i64 vn] w fun e w' => e = .returned (sv (hdr c nn ++ encs t M l)) ∧ Below w.heap.size w w' := by
  have hfl := Num.fmt_length (nn : Int)
  have hfm := fun w => ref_format (nn : Int) w (by omega) (by omega)
  have hmono := fun i h => encs_mono t l i M h
  obtain ⟨f, hf⟩ : ∃ f, Num.fmt (nn : Int) = f := ⟨_, rfl⟩
  rw [hf] at hfl hfm
  obtain ⟨hd1, hhd⟩ : ∃ h, hdr c nn = h := ⟨_, rfl⟩
  have hh : (c :: f) ++ [13, 10] = hd1 := by rw [← hhd]; unfold hdr; rw [hf]
  rw [hhd] at hlen ⊢
  have a1 : ∀ w, (Op.stringOp .add (⟨#[c]⟩ : ByteArray) (bs f)).run Tryd.prog w = .ok (sv (c :: f)) w := fun w => add_bs (a := [c]) (b := f) (by simp; omega) w
  have a2 : ∀ w, (Op.stringOp .add (bs (c :: f)) (⟨#[13, 10]⟩ : ByteArray)).run Tryd.prog w = .ok (sv hd1) w := fun w => by rw [← hh]; exact add_bs (a := c :: f) (b := [13, 10]) (by simp; omega) w
  rw [List.length_append] at hlen
  have HN := Lib.hid hN
  have HD := Lib.hid hd
  have HL := Lib.hid hl
  have HM := Lib.hid hmono
  have HLen := Lib.hid hlen
  clear hf hhd hh hN hd hl hmono hlen hfl
  go_enter Tryd.func29, Tryd.ntmps29
  go_wp2_with fail
  refine (hfm w).mono ?_
  rintro e w1 ⟨rfl, rfl⟩
  go_wp2_with fail
  go_loopw [9, 10] (fun v x wr => ∃ i, i ≤ M ∧ x = .int .i64 (i : Nat) ∧ v = sv (hd1 ++ encs t i l) ∧ Below w.heap.size w wr) (fun _ x _ => M - (intOf x).toNat)
  case atStart => exact ⟨0, Nat.zero_le _, rfl, by rw [encs_zero, List.append_nil], Below.refl _ _⟩
  case round =>
    clear hfm a1 a2
    obtain ⟨i, him, rfl, rfl, hbel⟩ := hrel
    rcases Nat.lt_or_ge i M with hlt | hge
    · obtain ⟨a1, r1, E1, f1, rfl, hSa1, hr1, hv1, p0, p1, p2, p3⟩ := (HD.out.keep (fun p hp => hbel.cell hp)).at_ (HL.out.keep (fun p hp => hbel.cell hp)) HN.out (Nat.lt_of_lt_of_le hlt hMN)
      have hlt' : (i : Int) < (M : Int) := by omega
      have hes := encs_succ t l i hr1
      have hle : hd1.length + ((encs t i l).length + (enc t r1).length) ≤ 1048576 := by
        have h1 := HM.out (i + 1) (by omega)
        rw [hes, List.length_append] at h1
        have := HLen.out; omega
      obtain ⟨P, hP⟩ : ∃ P, hd1 ++ encs t i l = P := ⟨_, rfl⟩
      have hPl : P.length + (enc t r1).length ≤ 1048576 := by rw [← hP]; simp only [List.length_append]; omega
      have HC := Lib.hid (ih r1 (List.mem_of_getElem? hr1) t vn wr [.int .i64 r1.k, sv r1.s, .int .i64 r1.n, .slice E1 r1.l.length f1] (hv1.mono (fun b hb => Nat.lt_of_lt_of_le hb hbel.size)) hvn hfv (by omega))
      have HP := Lib.hid (show hd1 ++ encs t (i + 1) l = P ++ enc t r1 by rw [hes, ← hP, List.append_assoc])
      have hadd : ∀ w, (Op.stringOp .add (bs P) (bs (enc t r1))).run Tryd.prog w = .ok (sv (P ++ enc t r1)) w := fun w => add_bs (by omega) w
      rw [hP]
      obtain ⟨X, hX⟩ : ∃ X, enc t r1 = X := ⟨_, rfl⟩
      rw [hX] at hadd HP HC
      clear hes hP hv1 hPl hle hX
      go_wp2_with fail
      refine HC.out.mono ?_
      rintro e w3 ⟨rfl, hb3⟩
      have hb4 := hbel.trans (hb3.mono hbel.size)
      go_wp2_with fail
      go_roundw
      case rel =>
        first
          | exact ⟨i + 1, by omega, by go_num, by rw [HP.out], hb4⟩
          | ((repeat apply Exists.intro); exact ⟨⟨i + 1, by omega, by go_num, by rw [HP.out], hb4⟩, rfl⟩)
      case measure => simp [intOf]; omega
    · go_wp2_with fail
      go_ret
      have hiM : i = M := by omega
      subst hiM
      exact ⟨rfl, hbel⟩
end Go.Proofs.YtjdnpgdedbegfaaDoor
