/- The walk of the reference's inline. -/
import Derived.Test.YtjdnpgdedbegfaaRefC
namespace Go.Proofs.Ytjdnpgdedbegfaa.Rq
/-- A byte looked for at i. -/
def IAt (c : UInt8) (l : B) (i : Nat) : Prop := i ≤ l.length ∧ idx c l = (idx c (l.drop i)).map (· + i)
theorem IAt.start (c : UInt8) (l : B) : IAt c l 0 := ⟨Nat.zero_le _, by rw [List.drop_zero]; rcases idx c l with _ | x <;> simp⟩
theorem IAt.hit {c : UInt8} {l : B} {i : Nat} (h : IAt c l i) (hi : i < l.length) (h1 : l[i] = c) : idx c l = some i := by
  rw [h.2, drop_step hi]; simp [idx, h1]
theorem IAt.next {c : UInt8} {l : B} {i : Nat} (h : IAt c l i) (hi : i < l.length) (h1 : ¬ l[i] = c) : IAt c l (i + 1) := by
  refine ⟨by omega, ?_⟩
  rw [h.2, drop_step hi]
  conv => lhs; unfold idx
  rw [if_neg h1]
  rcases idx c (l.drop (i + 1)) with _ | x
  · rfl
  · simp; omega
theorem IAt.out {c : UInt8} {l : B} {i : Nat} (h : IAt c l i) (hi : ¬ i < l.length) : idx c l = none := by
  rw [h.2, List.drop_eq_nil_of_le (by omega)]; rfl
end Go.Proofs.Ytjdnpgdedbegfaa.Rq
namespace Go.Proofs.Ytjdnpgdedbegfaa
open Go.RowKit Go.Shelf
set_option linter.unusedVariables false

/-- What the reference's Next and inline give. -/
def RNRet (B : Nat) (w' : World) (e : Ending) (l : List UInt8) : Rq.Res (List (List UInt8)) → Prop
  | none => e = .returned (.tuple #[.slice none 0 0, .int .i64 0, .int .i64 3])
  | some none => e = .returned (.tuple #[.slice none 0 0, .int .i64 0, .int .i64 2])
  | some (some (ss, r)) => ∃ v, e = .returned (.tuple #[v, .int .i64 (l.length - r.length : Nat), .int .i64 1]) ∧ Own w' B 9 1 v ss.length (ss.map sv)
theorem ref_words_no {l : List UInt8} (w : World) (hl : l.length ≤ 1048576) (h : Rq.words l = none) :
    Calls Try.prog 26 #[.string (bs l)] w fun e w' => ∃ v, e = .returned (.tuple #[v, .bool false]) ∧ Below w.heap.size w w' :=
  (ref_words l w hl).mono fun e w' ⟨he, hw⟩ => by rw [h] at he; obtain ⟨v, hv⟩ := he; exact ⟨v, hv, hw⟩
theorem ref_words_yes {l : List UInt8} (w : World) (hl : l.length ≤ 1048576) {ws : List (List UInt8)} (h : Rq.words l = some ws) :
    Calls Try.prog 26 #[.string (bs l)] w fun e w' => ∃ v, e = .returned (.tuple #[v, .bool true]) ∧ Own w' w.heap.size 9 1 v ws.length (ws.map sv) ∧ Below w.heap.size w w' :=
  (ref_words l w hl).mono fun e w' ⟨he, hw⟩ => by rw [h] at he; obtain ⟨v, hv, hO⟩ := he; exact ⟨v, hv, hO, hw⟩
theorem ex_take (l : List UInt8) (k : Nat) : (bs l).extract 0 k = bs (l.take k) := by rw [bs_extract, bs_data, List.drop_zero, Nat.sub_zero]

set_option maxRecDepth 100000 in
set_option maxHeartbeats 8000000 in
theorem ref_inline (l : List UInt8) (w : World) (hl : l.length ≤ 1048576) :
    Calls Try.prog 32 #[.string (bs l)] w fun e w' => RNRet w.heap.size w' e l (Rq.inl l) ∧ Below w.heap.size w w' := by
  obtain ⟨n, hn⟩ : ∃ n, l.length = n := ⟨_, rfl⟩
  have HN := Lib.hid hn
  rw [hn] at hl
  clear hn
  go_enter Try.func32, Try.ntmps32
  go_wp2_with fail
  go_loopw [5] (fun x wr => ∃ i : Nat, i ≤ n ∧ x = .int .i64 i ∧ Hid (Rq.IAt 10 l i) ∧ wr = w) (fun x _ => n - (intOf x).toNat)
  case atStart => exact ⟨0, Nat.zero_le _, rfl, Lib.hid (Rq.IAt.start 10 l), rfl⟩
  case round =>
    obtain ⟨i, hi, rfl, HI, rfl⟩ := hrel
    have hbz : (bs l).size = n := by rw [bs_size]; exact HN.out
    have hln := HN.out
    by_cases hin : i < n
    · have hil : i < l.length := by omega
      have hx0 : i < (bs l).size := by omega
      obtain ⟨d, hd⟩ : ∃ d, l[i] = d := ⟨_, rfl⟩
      have hg1 : (bs l)[i]'hx0 = d := (bs_get l i hx0 hil).trans hd
      have i1 : (i : Int) < (n : Int) := by omega
      have i2 : (0 : Int) ≤ (i : Int) := by omega
      by_cases hd10 : d = 10
      · subst hd10
        have hidx := HI.out.hit hil hd
        by_cases hbig : 4096 < i
        · have HR := Lib.hid (show Rq.inl l = none by unfold Rq.inl; rw [hidx]; simp only; rw [if_pos hbig])
          have i3 : (4096 : Int) < (i : Int) := by omega
          clear hd hidx hbig
          go_wp2_with fail
          go_ret3
          rw [HR.out]
          exact ⟨rfl, Below.refl _ _⟩
        · have i3 : (i : Int) ≤ 4096 := by omega
          have hinl : ∀ t, Rq.chop (l.take i) = t → Rq.inl l = match Rq.words t with
              | none => none
              | some ws => some (some (ws, l.drop (i + 1))) := by
            intro t ht; unfold Rq.inl; rw [hidx]; simp only; rw [if_neg hbig, ht]; rfl
          have HZ := Lib.hid (show l.length - (l.drop (i + 1)).length = i + 1 by rw [List.length_drop]; omega)
          rcases Nat.eq_zero_or_pos i with hi0 | hi0
          · subst hi0
            have ht : Rq.chop (l.take 0) = l.take 0 := by simp [Rq.chop]
            rcases hw : Rq.words (l.take 0) with _ | ws
            · have HR := Lib.hid (hinl _ ht)
              rw [hw] at HR
              have hex : (bs l).extract 0 0 = bs (l.take 0) := ex_take l 0
              have Hw := Lib.hid hw
              have hl1 := Lib.hid (show (l.take 0).length ≤ 1048576 by rw [List.length_take]; omega)
              have hcm : (((0 : Nat) : Int)) + 1 = ((0 + 1 : Nat) : Int) := by omega
              have HCM := Lib.hid hcm
              clear hd hidx hbig hinl ht hw hcm 
              go_wp2_with fail
              refine (ref_words_no _ hl1.out Hw.out).mono ?_
              rintro e w1 ⟨v1, rfl, hb1⟩
              go_wp2_with fail
              go_ret3
              rw [HR.out]
              exact ⟨rfl, hb1⟩
            · have HR := Lib.hid (hinl _ ht)
              rw [hw] at HR
              have hex : (bs l).extract 0 0 = bs (l.take 0) := ex_take l 0
              have Hw := Lib.hid hw
              have hl1 := Lib.hid (show (l.take 0).length ≤ 1048576 by rw [List.length_take]; omega)
              have hcm : (((0 : Nat) : Int)) + 1 = ((0 + 1 : Nat) : Int) := by omega
              have HCM := Lib.hid hcm
              clear hd hidx hbig hinl ht hw hcm 
              go_wp2_with fail
              refine (ref_words_yes _ hl1.out Hw.out).mono ?_
              rintro e w1 ⟨v1, rfl, hO, hb1⟩
              go_wp2_with fail
              go_ret3
              rw [HR.out]
              refine ⟨⟨v1, ?_, hO⟩, hb1⟩
              rw [HZ.out]; rfl
          · obtain ⟨j, rfl⟩ : ∃ j, i = j + 1 := ⟨i - 1, by omega⟩
            have hjl : j < l.length := by omega
            have hx1 : j < (bs l).size := by omega
            obtain ⟨v0, hv0⟩ : ∃ v0, l[j] = v0 := ⟨_, rfl⟩
            have hg2 : (bs l)[j]'hx1 = v0 := (bs_get l j hx1 hjl).trans hv0
            have htk : l.take (j + 1) = l.take j ++ [v0] := by rw [List.take_succ_eq_append_getElem hjl]; exact congrArg (fun x => l.take j ++ [x]) hv0
            by_cases h13 : v0 = 13
            · subst h13
              have ht : Rq.chop (l.take (j + 1)) = l.take j := by rw [htk]; simp [Rq.chop]
              rcases hw : Rq.words (l.take j) with _ | ws
              · have HR := Lib.hid (hinl _ ht)
                rw [hw] at HR
                have hex : (bs l).extract 0 j = bs (l.take j) := ex_take l j
                have Hw := Lib.hid hw
                have hl1 := Lib.hid (show (l.take j).length ≤ 1048576 by rw [List.length_take]; omega)
                have hcm : ((((j + 1) : Nat) : Int)) + 1 = (((j + 1) + 1 : Nat) : Int) := by omega
                have HCM := Lib.hid hcm
                clear hd hidx hbig hinl ht hw hcm hv0 htk
                go_wp2_with fail
                refine (ref_words_no _ hl1.out Hw.out).mono ?_
                rintro e w1 ⟨v1, rfl, hb1⟩
                go_wp2_with fail
                go_ret3
                rw [HR.out]
                exact ⟨rfl, hb1⟩
              · have HR := Lib.hid (hinl _ ht)
                rw [hw] at HR
                have hex : (bs l).extract 0 j = bs (l.take j) := ex_take l j
                have Hw := Lib.hid hw
                have hl1 := Lib.hid (show (l.take j).length ≤ 1048576 by rw [List.length_take]; omega)
                have hcm : ((((j + 1) : Nat) : Int)) + 1 = (((j + 1) + 1 : Nat) : Int) := by omega
                have HCM := Lib.hid hcm
                clear hd hidx hbig hinl ht hw hcm hv0 htk
                go_wp2_with fail
                refine (ref_words_yes _ hl1.out Hw.out).mono ?_
                rintro e w1 ⟨v1, rfl, hO, hb1⟩
                go_wp2_with fail
                go_ret3
                rw [HR.out]
                refine ⟨⟨v1, ?_, hO⟩, hb1⟩
                rw [HZ.out]; rfl
            · have ht : Rq.chop (l.take (j + 1)) = l.take (j + 1) := by rw [htk]; simp [Rq.chop, h13]
              have q1 := u8_f (c := v0) 13 rfl h13
              clear h13
              rcases hw : Rq.words (l.take (j + 1)) with _ | ws
              · have HR := Lib.hid (hinl _ ht)
                rw [hw] at HR
                have hex : (bs l).extract 0 (j + 1) = bs (l.take (j + 1)) := ex_take l (j + 1)
                have Hw := Lib.hid hw
                have hl1 := Lib.hid (show (l.take (j + 1)).length ≤ 1048576 by rw [List.length_take]; omega)
                have hcm : ((((j + 1) : Nat) : Int)) + 1 = (((j + 1) + 1 : Nat) : Int) := by omega
                have HCM := Lib.hid hcm
                clear hd hidx hbig hinl ht hw hcm hv0 htk
                go_wp2_with fail
                refine (ref_words_no _ hl1.out Hw.out).mono ?_
                rintro e w1 ⟨v1, rfl, hb1⟩
                go_wp2_with fail
                go_ret3
                rw [HR.out]
                exact ⟨rfl, hb1⟩
              · have HR := Lib.hid (hinl _ ht)
                rw [hw] at HR
                have hex : (bs l).extract 0 (j + 1) = bs (l.take (j + 1)) := ex_take l (j + 1)
                have Hw := Lib.hid hw
                have hl1 := Lib.hid (show (l.take (j + 1)).length ≤ 1048576 by rw [List.length_take]; omega)
                have hcm : ((((j + 1) : Nat) : Int)) + 1 = (((j + 1) + 1 : Nat) : Int) := by omega
                have HCM := Lib.hid hcm
                clear hd hidx hbig hinl ht hw hcm hv0 htk
                go_wp2_with fail
                refine (ref_words_yes _ hl1.out Hw.out).mono ?_
                rintro e w1 ⟨v1, rfl, hO, hb1⟩
                go_wp2_with fail
                go_ret3
                rw [HR.out]
                refine ⟨⟨v1, ?_, hO⟩, hb1⟩
                rw [HZ.out]; rfl
      · have q0 := u8_nt (c := d) 10 rfl hd10
        have HC := Lib.hid (HI.out.next hil (fun e => hd10 (hd.symm.trans e)))
        clear hd hd10
        go_wp2_with fail
        go_roundw
        case rel =>
          first
            | exact ⟨i + 1, by omega, by go_num, HC, by first | rfl | trivial⟩
            | ((repeat apply Exists.intro); exact ⟨⟨i + 1, by omega, by go_num, HC, by first | rfl | trivial⟩, rfl⟩)
        case measure => (simp [intOf]) <;> omega
    · have hidx := HI.out.out (by rw [HN.out]; exact hin)
      have i1 : (n : Int) ≤ (i : Int) := by omega
      by_cases hbig : 4096 < n
      · have HR := Lib.hid (show Rq.inl l = none by unfold Rq.inl; rw [hidx]; simp only; rw [if_pos (by omega)])
        have i3 : (4096 : Int) < (n : Int) := by omega
        clear hidx hbig
        go_wp2_with fail
        go_ret3
        rw [HR.out]
        exact ⟨rfl, Below.refl _ _⟩
      · have HR := Lib.hid (show Rq.inl l = some none by unfold Rq.inl; rw [hidx]; simp only; rw [if_neg (by omega)])
        have i3 : (n : Int) ≤ 4096 := by omega
        clear hidx hbig
        go_wp2_with fail
        go_ret3
        rw [HR.out]
        exact ⟨rfl, Below.refl _ _⟩
end Go.Proofs.Ytjdnpgdedbegfaa
