/- The walks of the laws' known, and of the law RespLines. -/
import Derived.Test.YtjdnpgdedbegfaaDoorRspO
import Derived.Test.YtjdnpgdedbegfaaDoorKeep
namespace Go.Proofs.YtjdnpgdedbegfaaDoor
open Go.RowKit Go.Shelf
set_option linter.unusedVariables false

theorem OB.str {w : World} {B : Nat} {v : Value} {l : List UInt8} (h : OB w B 5 v l) : (convert 23 9 v).run Tryd.prog w = .ok (sv l) w := h.string Tryd.underlying23 Tryd.underlying5 Tryd.underlying9
theorem My.grown {w w' : World} {row : Option Nat} (h : My w) (hg : w.grownBy w' row) (hr : ∀ g, row = some g → Tryd.lays155_ren.g 1 ≠ g) : My w' := by
  have hlt := h.lt
  obtain ⟨m, hm⟩ := h
  exact ⟨m, (World.cell?_of_block (hg.block _ hlt (fun e => hr _ e.symm rfl))).trans hm⟩

set_option maxRecDepth 100000 in
set_option maxHeartbeats 4000000 in
theorem known_any (w : World) (hmy : My w) : Calls Tryd.prog 11 #[] w fun e w' => e = .returned (.bool true) ∧ Below w.heap.size w w' := by
  have hD := decode_any (.slice none 0 0) [] w ⟨none, 0, rfl, ⟨by simp [bv], by simp⟩, by simp, by unfold maxLen; omega, fun _ => rfl⟩ (by simp)
  rw [rd_nil] at hD
  have E1 := fun w (hm : My w) => encode_any (.mk 4 [97, 98] 0 []) 2 false w [.int .i64 4, sv [97, 98], .int .i64 0, .slice none 0 0] (RV.flat_ (by unfold fits; omega) (by unfold fits; omega) (by decide)) hm rfl (by unfold fits; omega) (by decide)
  have E2 := fun w (hm : My w) => encode_any (.mk 5 [] 0 []) 3 true w [.int .i64 5, sv [], .int .i64 0, .slice none 0 0] (RV.flat_ (by unfold fits; omega) (by unfold fits; omega) (by decide)) hm rfl (by unfold fits; omega) (by decide)
  rw [show enc false (.mk 4 [97, 98] 0 []) = [36, 50, 13, 10, 97, 98, 13, 10] by decide] at E1
  rw [show enc true (.mk 5 [] 0 []) = [95, 13, 10] by decide] at E2
  go_enter Tryd.func11, Tryd.ntmps11
  go_wp2_with fail
  refine hD.mono ?_
  rintro e w1 ⟨rfl, hb1⟩
  have hb2 := hb1.alloc hb1.size (.cells #[.int .i64 0, .string ⟨#[]⟩, .int .i64 0, .slice none 0 0] 27)
  go_wp2_with fail
  refine (E1 _ (hmy.below_ hb2)).mono ?_
  rintro e w2 ⟨v2, rfl, hO2, hb3⟩
  have hb4 := hb2.trans (hb3.mono hb2.size)
  have hc2 := hO2.str
  go_wp2_with fail
  refine (E2 _ (hmy.below_ hb4)).mono ?_
  rintro e w3 ⟨v3, rfl, hO3, hb5⟩
  have hb6 := hb4.trans (hb5.mono hb4.size)
  have hc3 := hO3.str
  go_wp2_with fail
  go_ret
  exact ⟨rfl, hb6⟩

/-- One line, read again. -/
theorem line_read (k : Int) (hk : k = 1 ∨ k = 2) (S : List UInt8) (hl : S.length ≤ 1000) : ∃ X, enc false (.mk k S 0 []) = X ∧ X.length ≤ 1100 ∧ Rsp.rd 33 X.length X = some (.mk k (cln S) 0 [], []) := by
  refine ⟨_, rfl, ?_, ?_⟩
  · rcases hk with rfl | rfl <;> (unfold enc; simp [cln_len]; omega)
  · have e : enc false (.mk k S 0 []) = enc false (.mk k (cln S) 0 []) := by
      rw [← enc_flat (.mk k S 0 []), flat_mk, if_pos hk]
    have ho : okR 33 (.mk k (cln S) 0 []) := by
      refine ⟨by omega, by unfold fits; omega, fun _ => Rsp.cln_line S, by omega, by simp⟩
    have hlen : (enc false (.mk k (cln S) 0 [])).length ≤ 1048576 := by
      rcases hk with rfl | rfl <;> (unfold enc; simp [cln_len]; omega)
    have := rd_enc false 33 _ (enc false (.mk k (cln S) 0 [])).length [] ho (Nat.le_refl _) hlen
    rw [List.append_nil] at this
    rw [e, this]
    simp only [red]
    rw [if_neg (by decide), flat_mk, if_pos hk, Rsp.cln_cln]
theorem cln_get (S : List UInt8) (i : Nat) (h : i < S.length) : (cln S)[i]'(by rw [cln_len]; exact h) = if S[i] = 13 ∨ S[i] = 10 then 32 else S[i] := by
  simp only [cln, ones, List.getElem_map]
  generalize S[i] = c
  unfold Go.Proofs.YtjdnpgdedbegfaaDoor.one
  by_cases h1 : c = 13
  · simp [h1]
  · by_cases h2 : c = 10
    · simp [h2]
    · simp [h1, h2]

set_option maxRecDepth 100000 in
set_option maxHeartbeats 8000000 in
theorem lines_go (s : ByteArray) (err : Bool) (k : Int) (hk : k = if err then 2 else 1) (w : World) (hs : s.size ≤ maxLen) (hmy : My w) :
    Calls Tryd.prog 3 #[.string s, .bool err] w fun e w' => e = .returned (.bool true) ∧ Below w.heap.size w w' := by
  have hcut := fun w => cut_any s 60 w hs (by omega)
  have hSl : (s.data.toList.take 60).length ≤ 60 := List.length_take_le _ _
  obtain ⟨S, hS⟩ : ∃ S, s.data.toList.take 60 = S := ⟨_, rfl⟩
  rw [hS] at hcut hSl
  clear hS
  have hk12 : k = 1 ∨ k = 2 := by rw [hk]; cases err <;> simp
  obtain ⟨X, hX, hXl, hXr⟩ := line_read k hk12 S (by omega)
  have hfk : fits k := by unfold fits; omega
  have E1 := fun w (hm : My w) => encode_any (.mk k S 0 []) 2 false w [.int .i64 k, sv S, .int .i64 0, .slice none 0 0] (RV.flat_ hfk (by unfold fits; omega) (by unfold maxLen; omega)) hm rfl (by unfold fits; omega) (by rw [hX]; omega)
  rw [hX] at E1
  obtain ⟨m, hm⟩ : ∃ m, S.length = m := ⟨_, rfl⟩
  obtain ⟨T, hT⟩ : ∃ T, bs S = T := ⟨_, rfl⟩
  obtain ⟨C, hC⟩ : ∃ C, bs (cln S) = C := ⟨_, rfl⟩
  have hTm : T.size = m := by rw [← hT, bs_size, hm]
  have hCm : C.size = m := by rw [← hC, bs_size, cln_len, hm]
  have hget : Hid (∀ (i : Nat) (h1 : i < T.size) (h2 : i < C.size), C[i] = if T[i] = 13 ∨ T[i] = 10 then 32 else T[i]) := Lib.hid (by
    subst hT; subst hC
    intro i h1 h2
    exact cln_get S i (by simpa using h1))
  have D1 := fun w v (h : BSl w v X) => decode_any v X w h (by omega)
  rw [hXr] at D1
  simp only [DRet, Rep.s, Rep.l, Rep.k, Rep.n] at D1
  simp only [sv, hT] at E1
  have hcut' : ∀ w, Calls Tryd.prog 8 #[.string s, .int .i64 (60 : Nat)] w fun e w' => e = .returned (.string T) ∧ w = w' := by
    intro w; rw [← hT]; exact hcut w
  simp only [sv, hC] at D1
  have hm60 : m ≤ 60 := by omega
  have HXl := Lib.hid hXl
  clear hT hC hm hcut hX hXr hfk hSl hXl
  cases err with
  | false =>
    simp at hk
    subst hk
    clear hk12
    go_enter Tryd.func3, Tryd.ntmps3
    go_wp2_with fail
    refine (hcut' w).mono ?_
    rintro e w1 ⟨rfl, rfl⟩
    go_wp2_with fail
    refine (E1 _ hmy).mono ?_
    rintro e w1 ⟨v1, rfl, hO1, hb1⟩
    obtain ⟨A1, c1, rfl⟩ := hO1.sliceForm
    go_wp2_with fail
    refine (D1 _ _ hO1.bsl).mono ?_
    rintro e w2 ⟨⟨E, f, rfl, _⟩, hb2⟩
    have hbx := (hb1.trans (hb2.mono hb1.size)).alloc (by have := (hb1.trans (hb2.mono hb1.size)).size; omega) (.cells #[.int .i64 1, .string C, .int .i64 0, .slice E 0 f] 27)
    have hBx := Blk.new w2 27 #[.int .i64 1, .string C, .int .i64 0, .slice E 0 f]
    have Hbx := Lib.hid hbx
    have HBx := Lib.hid hBx
    clear hbx hBx
    go_wp2_with fail
    go_loopw [10] (fun x wr => ∃ i, i ≤ m ∧ x = .int .i64 (i : Nat) ∧ Blk wr w2.heap.size 27 #[.int .i64 1, .string C, .int .i64 0, .slice E 0 f] ∧ Below w.heap.size w wr) (fun x _ => m - (intOf x).toNat)
    case atStart => exact ⟨0, Nat.zero_le _, rfl, HBx.out, Hbx.out⟩
    case round =>
      obtain ⟨i, him, rfl, hBr, hbel⟩ := hrel
      rcases Nat.lt_or_ge i m with hlt | hge
      · have hlt' : (i : Int) < (m : Int) := by omega
        have hT1 : i < T.size := by omega
        have hC1 : i < C.size := by omega
        have hg := hget.out i hT1 hC1
        have c1 := hBr.cell 1
        by_cases h13 : T[i] = 13
        · have q1 := u8_t (c := T[i]) (d := 13) 13 rfl h13
          rw [if_pos (.inl h13)] at hg
          have q3 := u8_nf (c := C[i]) (d := 32) 32 rfl hg
          clear h13 hg
          go_wp2_with fail
          go_roundw
          case rel => exact ⟨i + 1, by omega, by go_num, hBr, hbel⟩
          case measure => simp [intOf]; omega
        · by_cases h10 : T[i] = 10
          · have q1 := u8_f (c := T[i]) (d := 13) 13 rfl h13
            have q2 := u8_t (c := T[i]) (d := 10) 10 rfl h10
            rw [if_pos (.inr h10)] at hg
            have q3 := u8_nf (c := C[i]) (d := 32) 32 rfl hg
            clear h13 h10 hg
            go_wp2_with fail
            go_roundw
            case rel => exact ⟨i + 1, by omega, by go_num, hBr, hbel⟩
            case measure => simp [intOf]; omega
          · have q1 := u8_f (c := T[i]) (d := 13) 13 rfl h13
            have q2 := u8_f (c := T[i]) (d := 10) 10 rfl h10
            rw [if_neg (by intro h; rcases h with h | h; exact h13 h; exact h10 h)] at hg
            have q3 : ((C[i].toNat : Int) != (T[i].toNat : Int)) = false := by rw [hg]; simp
            have b0 : (0 : Int) ≤ (i : Int) := by omega
            have b1 : (i : Int) < (C.size : Int) := by omega
            have b2 : (i : Int) < (T.size : Int) := by omega
            clear h13 h10 hg
            go_wp2_with fail
            go_quiet (fail)
            go_wp2_with fail
            have hbq := Lib.below_drewN' hbel nq
            have hBq := hBr.drewN nq
            go_roundw
            case rel => exact ⟨i + 1, by omega, by go_num, hBq, hbq⟩
            case measure => simp [intOf]; omega
      · go_wp2_with fail
        refine (known_any _ (hmy.below_ hbel)).mono ?_
        rintro e w3 ⟨rfl, hb3⟩
        go_wp2_with fail
        go_ret
        exact ⟨rfl, hbel.trans (hb3.mono hbel.size)⟩
  | true =>
    simp at hk
    subst hk
    clear hk12
    go_enter Tryd.func3, Tryd.ntmps3
    go_wp2_with fail
    refine (hcut' w).mono ?_
    rintro e w1 ⟨rfl, rfl⟩
    go_wp2_with fail
    refine (E1 _ hmy).mono ?_
    rintro e w1 ⟨v1, rfl, hO1, hb1⟩
    obtain ⟨A1, c1, rfl⟩ := hO1.sliceForm
    go_wp2_with fail
    refine (D1 _ _ hO1.bsl).mono ?_
    rintro e w2 ⟨⟨E, f, rfl, _⟩, hb2⟩
    have hbx := (hb1.trans (hb2.mono hb1.size)).alloc (by have := (hb1.trans (hb2.mono hb1.size)).size; omega) (.cells #[.int .i64 2, .string C, .int .i64 0, .slice E 0 f] 27)
    have hBx := Blk.new w2 27 #[.int .i64 2, .string C, .int .i64 0, .slice E 0 f]
    have Hbx := Lib.hid hbx
    have HBx := Lib.hid hBx
    clear hbx hBx
    go_wp2_with fail
    go_loopw [10] (fun x wr => ∃ i, i ≤ m ∧ x = .int .i64 (i : Nat) ∧ Blk wr w2.heap.size 27 #[.int .i64 2, .string C, .int .i64 0, .slice E 0 f] ∧ Below w.heap.size w wr) (fun x _ => m - (intOf x).toNat)
    case atStart => exact ⟨0, Nat.zero_le _, rfl, HBx.out, Hbx.out⟩
    case round =>
      obtain ⟨i, him, rfl, hBr, hbel⟩ := hrel
      rcases Nat.lt_or_ge i m with hlt | hge
      · have hlt' : (i : Int) < (m : Int) := by omega
        have hT1 : i < T.size := by omega
        have hC1 : i < C.size := by omega
        have hg := hget.out i hT1 hC1
        have c1 := hBr.cell 1
        by_cases h13 : T[i] = 13
        · have q1 := u8_t (c := T[i]) (d := 13) 13 rfl h13
          rw [if_pos (.inl h13)] at hg
          have q3 := u8_nf (c := C[i]) (d := 32) 32 rfl hg
          clear h13 hg
          go_wp2_with fail
          go_roundw
          case rel => exact ⟨i + 1, by omega, by go_num, hBr, hbel⟩
          case measure => simp [intOf]; omega
        · by_cases h10 : T[i] = 10
          · have q1 := u8_f (c := T[i]) (d := 13) 13 rfl h13
            have q2 := u8_t (c := T[i]) (d := 10) 10 rfl h10
            rw [if_pos (.inr h10)] at hg
            have q3 := u8_nf (c := C[i]) (d := 32) 32 rfl hg
            clear h13 h10 hg
            go_wp2_with fail
            go_roundw
            case rel => exact ⟨i + 1, by omega, by go_num, hBr, hbel⟩
            case measure => simp [intOf]; omega
          · have q1 := u8_f (c := T[i]) (d := 13) 13 rfl h13
            have q2 := u8_f (c := T[i]) (d := 10) 10 rfl h10
            rw [if_neg (by intro h; rcases h with h | h; exact h13 h; exact h10 h)] at hg
            have q3 : ((C[i].toNat : Int) != (T[i].toNat : Int)) = false := by rw [hg]; simp
            have b0 : (0 : Int) ≤ (i : Int) := by omega
            have b1 : (i : Int) < (C.size : Int) := by omega
            have b2 : (i : Int) < (T.size : Int) := by omega
            clear h13 h10 hg
            go_wp2_with fail
            go_quiet (fail)
            go_wp2_with fail
            have hbq := Lib.below_drewN' hbel nq
            have hBq := hBr.drewN nq
            go_roundw
            case rel => exact ⟨i + 1, by omega, by go_num, hBq, hbq⟩
            case measure => simp [intOf]; omega
      · go_wp2_with fail
        refine (known_any _ (hmy.below_ hbel)).mono ?_
        rintro e w3 ⟨rfl, hb3⟩
        go_wp2_with fail
        go_ret
        exact ⟨rfl, hbel.trans (hb3.mono hbel.size)⟩
theorem respLines_walk (s : ByteArray) (err : Bool) (w : World) (hs : s.size ≤ maxLen) (hmy : My w) :
    Calls Tryd.prog 3 #[.string s, .bool err] w fun e w' => e = .returned (.bool true) ∧ Below w.heap.size w w' := lines_go s err _ rfl w hs hmy
end Go.Proofs.YtjdnpgdedbegfaaDoor
