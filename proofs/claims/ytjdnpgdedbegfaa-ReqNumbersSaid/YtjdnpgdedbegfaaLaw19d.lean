/- The walks of the reference's Make and of row (package tallboylaw19). -/
import Derived.Test.YtjdnpgdedbegfaaLaw19c
import Derived.Test.YtjdnpgdedbegfaaRefn
namespace Go.Proofs.Ytjdnpgdedbegfaa
open Go.RowKit Go.Shelf
set_option linter.unusedVariables false

set_option maxRecDepth 100000 in
set_option maxHeartbeats 8000000 in
theorem ref_make {B c : Nat} {A : Option Addr} {ls : List (List UInt8)} (w : World) (h : Reads w B 1 A ls.length (ls.map sv)) (hB : B ≤ w.heap.size) (hl : ls.length ≤ 256) (hs : ∀ s ∈ ls, s.length ≤ 65536) :
    Calls Try.prog 21 #[.slice A ls.length c] w fun e w' => e = .returned (sv (Rq.make ls)) ∧ Below w.heap.size w w' := by
  obtain ⟨n, hn⟩ : ∃ n, ls.length = n := ⟨_, rfl⟩
  rw [hn] at h hl ⊢
  have hfl := Num.fmt_length (n : Int)
  obtain ⟨f, hf⟩ : ∃ f, Num.fmt (n : Int) = f := ⟨_, rfl⟩
  have hfm := fun w => ref_format (n : Int) w (by omega) (by omega)
  rw [hf] at hfl hfm
  obtain ⟨hd, hhd⟩ : ∃ hd, (42 :: f) ++ [13, 10] = hd := ⟨_, rfl⟩
  have hdl : hd.length ≤ 40 := by rw [← hhd]; simp; omega
  have HM := Lib.hid (show Rq.make ls = hd ++ (ls.map Rq.mkBulk).flatten by unfold Rq.make; rw [hn, hf, ← hhd]; simp)
  have HN := Lib.hid hn
  have HS := Lib.hid hs
  have hadd1 : ∀ w, (Op.stringOp .add (⟨#[42]⟩ : ByteArray) (bs f)).run Try.prog w = .ok (sv (42 :: f)) w := fun w => add_bs (a := [42]) (b := f) (by simp; omega) w
  have hadd2 : ∀ w, (Op.stringOp .add (bs (42 :: f)) (⟨#[13, 10]⟩ : ByteArray)).run Try.prog w = .ok (sv hd) w := fun w => by rw [← hhd]; exact add_bs (a := 42 :: f) (b := [13, 10]) (by simp; omega) w
  clear hf hn hs hhd
  go_enter Try.func21, Try.ntmps21
  go_wp2_with fail
  refine (hfm w).mono ?_
  rintro e w1 ⟨rfl, rfl⟩
  go_wp2_with fail
  go_loopw [3, 4] (fun t x wr => ∃ (k : Nat) (acc : List UInt8), k ≤ n ∧ x = .int .i64 k ∧ t = sv acc ∧ Hid (acc = hd ++ ((ls.take k).map Rq.mkBulk).flatten) ∧ acc.length ≤ 40 + k * 65562 ∧ Below w.heap.size w wr) (fun _ x _ => n - (intOf x).toNat)
  case atStart => exact ⟨0, hd, by omega, rfl, rfl, Lib.hid (by simp), by omega, Below.refl _ _⟩
  case round =>
    clear hadd1 hadd2 hfm
    obtain ⟨k, acc, hk, rfl, rfl, HA, hal, hbel⟩ := hrel
    by_cases hkn : k < n
    · obtain ⟨a, rfl, hab⟩ := h.addr (by omega)
      have hkl : k < ls.length := by rw [HN.out]; exact hkn
      have hcell := (h.keep (w' := wr) (fun q hq => hbel.cell (by omega))).strAt k hkn hkl
      have hsk := HS.out _ (List.getElem_mem hkl)
      obtain ⟨s, hs⟩ : ∃ s, ls[k] = s := ⟨_, rfl⟩
      rw [hs] at hcell hsk
      have HO := Lib.hid (show acc ++ Rq.mkBulk s = hd ++ ((ls.take (k + 1)).map Rq.mkBulk).flatten by
        rw [List.take_succ_eq_append_getElem hkl, hs, HA.out]; simp)
      have hml := (mkBulk_len s).1
      obtain ⟨mb, hmb⟩ : ∃ mb, acc ++ Rq.mkBulk s = mb := ⟨_, rfl⟩
      have hmbl : mb.length ≤ acc.length + (s.length + 26) := by rw [← hmb, List.length_append]; omega
      have hfl := Num.fmt_length (s.length : Int)
      obtain ⟨f2, hf2⟩ : ∃ f2, Num.fmt (s.length : Int) = f2 := ⟨_, rfl⟩
      have hfm := fun w => (ref_format (s.length : Int) w (by omega) (by omega)).mono (fun e w' h => (⟨h.1, h.2.symm⟩ : e = _ ∧ w' = w))
      rw [hf2] at hfl hfm
      obtain ⟨b1, hb1⟩ : ∃ b1, acc ++ [36] = b1 := ⟨_, rfl⟩
      obtain ⟨b2, hb2⟩ : ∃ b2, b1 ++ f2 = b2 := ⟨_, rfl⟩
      obtain ⟨b3, hb3⟩ : ∃ b3, b2 ++ [13, 10] = b3 := ⟨_, rfl⟩
      obtain ⟨b4, hb4⟩ : ∃ b4, b3 ++ s = b4 := ⟨_, rfl⟩
      have hmb2 : mb = b4 ++ [13, 10] := by rw [← hmb, ← hb4, ← hb3, ← hb2, ← hb1]; unfold Rq.mkBulk; rw [hf2]; simp
      have l1 : b1.length = acc.length + 1 := by rw [← hb1]; simp
      have l2 : b2.length = b1.length + f2.length := by rw [← hb2]; simp
      have l3 : b3.length = b2.length + 2 := by rw [← hb3]; simp
      have l4 : b4.length = b3.length + s.length := by rw [← hb4]; simp
      have a1 : ∀ w, (Op.stringOp .add (bs acc) (⟨#[36]⟩ : ByteArray)).run Try.prog w = .ok (sv b1) w := fun w => by rw [← hb1]; exact add_bs (a := acc) (b := [36]) (by simp; omega) w
      have a2 : ∀ w, (Op.stringOp .add (bs b1) (bs f2)).run Try.prog w = .ok (sv b2) w := fun w => by rw [← hb2]; exact add_bs (by omega) w
      have a3 : ∀ w, (Op.stringOp .add (bs b2) (⟨#[13, 10]⟩ : ByteArray)).run Try.prog w = .ok (sv b3) w := fun w => by rw [← hb3]; exact add_bs (a := b2) (b := [13, 10]) (by simp; omega) w
      have a4 : ∀ w, (Op.stringOp .add (bs b3) (bs s)).run Try.prog w = .ok (sv b4) w := fun w => by rw [← hb4]; exact add_bs (by omega) w
      have a5 : ∀ w, (Op.stringOp .add (bs b4) (⟨#[13, 10]⟩ : ByteArray)).run Try.prog w = .ok (sv mb) w := fun w => by rw [hmb2]; exact add_bs (a := b4) (b := [13, 10]) (by simp; omega) w
      rw [hmb] at HO
      have hkn' : (k : Int) < (n : Int) := by omega
      have h0k : (0 : Int) ≤ (k : Int) := by omega
      clear hs hkl hf2 hmb hb1 hb2 hb3 hb4 hmb2 l1 l2 l3 l4
      go_wp2_with fail
      go_quiet ((go_at_call 30; exact Calls.quiet_of_same (hfm _)))
      go_wp2_with fail
      go_roundw
      case rel =>
        first
          | exact ⟨k + 1, mb, by omega, by go_num, rfl, HO, by omega, Lib.below_drewN' hbel _⟩
          | ((repeat apply Exists.intro); exact ⟨⟨k + 1, mb, by omega, by go_num, rfl, HO, by omega, Lib.below_drewN' hbel _⟩, rfl⟩)
      case measure => (simp [intOf]) <;> omega
    · have hkn' : (n : Int) ≤ (k : Int) := by omega
      have HO := Lib.hid (show k = n by omega)
      go_wp2_with fail
      go_ret
      refine ⟨?_, hbel⟩
      have hk : k = n := HO.out
      have : Rq.make ls = acc := by rw [HM.out, HA.out, hk, List.take_of_length_le (by rw [HN.out]; omega)]
      rw [this]; rfl

/-- A []Part that came in. -/
def ArgP (w : World) (v : Value) (n : Nat) : Prop :=
  ∃ A c, v = .slice A n c ∧ n ≤ maxLen ∧ ∀ k, k < n → ∃ a kd u ls s, A = some a ∧ a.block < w.heap.size ∧ w.cell? (a.add (k * 3)) = some (.int .i64 kd) ∧ w.cell? (a.add (k * 3 + 1)) = some u ∧ Arg1 w u ls ∧ w.cell? (a.add (k * 3 + 2)) = some (.string s) ∧ s.size ≤ maxLen

set_option maxRecDepth 100000 in
set_option maxHeartbeats 8000000 in
theorem row_any (v : Value) (n : Nat) (w : World) (hv : ArgP w v n) :
    Calls Try.prog 8 #[v] w fun e w' => ∃ s, e = .returned (sv s) ∧ s.length ≤ 2400 ∧ Below w.heap.size w w' := by
  obtain ⟨A, c, rfl, hn, hcells⟩ := hv
  unfold maxLen at hn
  have HC := Lib.hid hcells
  clear hcells
  go_enter Try.func8, Try.ntmps8
  go_wp2_with fail
  go_loopw [3, 4] (fun t x wr => ∃ (k : Nat) (acc : List UInt8), k ≤ n ∧ k ≤ 8 ∧ x = .int .i64 k ∧ t = sv acc ∧ acc.length ≤ k * 300 ∧ Below w.heap.size w wr) (fun _ x _ => n - (intOf x).toNat)
  case atStart => exact ⟨0, [], by omega, by omega, rfl, rfl, by simp, Below.refl _ _⟩
  case round =>
    obtain ⟨k, acc, hk, hk8, rfl, rfl, hal, hbel⟩ := hrel
    by_cases hkn : k < n
    · by_cases hk9 : k < 8
      · obtain ⟨a, kd, u, ls, s, rfl, hab, hc0, hc1, harg, hc2, hs⟩ := HC.out k hkn
        have d0 := (hbel.cell (p := a.add (k * 3)) (by rw [block_of_add]; exact hab)).trans hc0
        have d1' := (hbel.cell (p := a.add (k * 3 + 1)) (by rw [block_of_add]; exact hab)).trans hc1
        have d2' := (hbel.cell (p := a.add (k * 3 + 2)) (by rw [block_of_add]; exact hab)).trans hc2
        have d1 : wr.cell? ⟨(a.add (k * 3)).block, (a.add (k * 3)).off + 1, none⟩ = some u := by rw [← d1', ← add_of_add]; rfl
        have d2 : wr.cell? ⟨(a.add (k * 3)).block, (a.add (k * 3)).off + 2, none⟩ = some (.string s) := by rw [← d2', ← add_of_add]; rfl
        have harg1 := harg.below hbel
        obtain ⟨Au, nu, cu, rfl⟩ : ∃ A n c, u = .slice A n c := by obtain ⟨A, c, h, _⟩ := harg; exact ⟨A, _, c, h⟩
        have i1 : (0 : Int) ≤ (k : Int) := by omega
        have i2 : (k : Int) < (n : Int) := by omega
        have i3 : (k : Int) < 8 := by omega
        clear hc0 hc1 hc2 harg d1' d2'
        have hf5 := fun most w h hm => few_arg (v := .slice Au nu cu) (ls := ls) 5 most w h (by omega) hm
        by_cases hk1 : kd = 1
        · subst hk1
          have hF := fews_len ls 5 20
          have hFs := fews_size (ls := ls) (m := 5) (most := 20)
          have hf := fun w h => hf5 20 w h (by omega)
          obtain ⟨F, hFe⟩ : ∃ F, fews ls 5 20 = F := ⟨_, rfl⟩
          rw [hFe] at hF hFs hf
          have hml := Rq.make_len F 20 hFs
          have HFs := Lib.hid hFs
          clear hFe hFs hf5
          go_wp2_with fail
          refine (hf wr harg1).mono ?_
          rintro e w1 ⟨A1, c1, rfl, hO1, hb1⟩
          go_wp2_with fail
          refine (ref_make w1 (hO1.own_reads (Nat.le_refl _)) (Nat.le_refl _) (by omega) (fun s hs => by have := HFs.out s hs; omega)).mono ?_
          rintro e w2 ⟨rfl, hb2⟩
          obtain ⟨M, hM⟩ : ∃ M, Rq.make F = M := ⟨_, rfl⟩
          rw [hM] at hml ⊢
          obtain ⟨acc2, hacc2⟩ : ∃ acc2, acc ++ M = acc2 := ⟨_, rfl⟩
          have hal2 : acc2.length ≤ (k + 1) * 300 := by rw [← hacc2, List.length_append]; omega
          have a1 : ∀ w, (Op.stringOp .add (bs acc) (bs M)).run Try.prog w = .ok (sv acc2) w := fun w => by rw [← hacc2]; exact add_bs (by omega) w
          have hbl2 := below_trans (below_trans hbel hb1) hb2
          clear hM hacc2
          go_wp2_with fail
          go_roundw
          case rel =>
            first
              | exact ⟨k + 1, acc2, by omega, by omega, by go_num, rfl, hal2, hbl2⟩
              | ((repeat apply Exists.intro); exact ⟨⟨k + 1, acc2, by omega, by omega, by go_num, rfl, hal2, hbl2⟩, rfl⟩)
          case measure => (simp [intOf]) <;> omega
        · have n1 : (kd == 1) = false := by simpa using hk1
          by_cases hk2 : kd = 2
          · subst hk2
            have hF := fews_len ls 5 9
            have hFs := fews_size (ls := ls) (m := 5) (most := 9)
            have hf := fun w h => hf5 9 w h (by omega)
            obtain ⟨F, hFe⟩ : ∃ F, fews ls 5 9 = F := ⟨_, rfl⟩
            rw [hFe] at hF hFs hf
            have HFs := Lib.hid hFs
            obtain ⟨nf, hnf⟩ : ∃ nf, F.length = nf := ⟨_, rfl⟩
            rw [hnf] at hF hf
            have HNF := Lib.hid hnf
            clear hFe hFs hf5 hnf hk1
            go_wp2_with fail
            refine (hf wr harg1).mono ?_
            rintro e w1 ⟨A1, c1, rfl, hO1, hb1⟩
            have hbl1 := below_trans hbel hb1
            have HO1 := Lib.hid hO1
            have hR1 := hO1.own_reads (Nat.le_refl _)
            clear hO1
            go_wp2_with fail
            obtain ⟨wo, rfl⟩ : ∃ wo : World, wo = wr := ⟨_, rfl⟩
            go_loopw [3, 51] (fun t x wr => ∃ (j : Nat) (sl : List UInt8), j ≤ nf ∧ x = .int .i64 j ∧ t = sv sl ∧ sl.length ≤ acc.length + j * 11 ∧ wr = w1) (fun _ x _ => nf - (intOf x).toNat)
            case atStart => exact ⟨0, acc, by omega, rfl, rfl, by omega, rfl⟩
            case round =>
              obtain ⟨j, sl, hj, rfl, rfl, hsl, rfl⟩ := hrel
              by_cases hjn : j < nf
              · obtain ⟨a1, rfl, hab1⟩ := hR1.addr (by omega)
                have hjF : j < F.length := by rw [HNF.out]; exact hjn
                have hcj := hR1.strAt j hjn hjF
                obtain ⟨l, hl⟩ : ∃ l, F[j] = l := ⟨_, rfl⟩
                have hll := HFs.out _ (List.getElem_mem hjF)
                rw [hl] at hcj hll
                obtain ⟨m, hm⟩ : ∃ m, l.length = m := ⟨_, rfl⟩
                have HM := Lib.hid hm
                rw [hm] at hll
                have j1 : (0 : Int) ≤ (j : Int) := by omega
                have j2 : (j : Int) < (nf : Int) := by omega
                clear hl hm hjF
                go_wp2_with fail
                obtain ⟨wo2, rfl⟩ : ∃ wo : World, wo = wr := ⟨_, rfl⟩
                go_loopw [3, 7] (fun t x wr => ∃ (i : Nat) (sl2 : List UInt8), i ≤ m ∧ x = .int .i64 i ∧ t = sv sl2 ∧ sl2.length ≤ sl.length + i ∧ wr = wo2) (fun _ x _ => m - (intOf x).toNat)
                case atStart => exact ⟨0, sl, by omega, rfl, rfl, by omega, rfl⟩
                case round =>
                  obtain ⟨i, sl2, hi, rfl, rfl, hsl2, rfl⟩ := hrel
                  by_cases him : i < m
                  · have hil : i < l.length := by rw [HM.out]; exact him
                    have hbsz : (bs l).size = m := by rw [bs_size]; exact HM.out
                    have hlm := HM.out
                    obtain ⟨d, hd⟩ : ∃ d, l[i] = d := ⟨_, rfl⟩
                    have hex : (bs l).extract i (i + 1) = bs [d] := by
                      rw [bs_extract, bs_data, List.drop_eq_getElem_cons hil, hd]; simp [show i + 1 - i = 1 from by omega]
                    have a1 : ∀ w, (Op.stringOp .add (bs sl2) (bs [d])).run Try.prog w = .ok (sv (sl2 ++ [d])) w := fun w => add_bs (by simp; omega) w
                    have k1 : (0 : Int) ≤ (i : Int) := by omega
                    have k2 : (i : Int) < (m : Int) := by omega
                    have k3 : (i : Int) + 1 ≤ (m : Int) := by omega
                    clear hd hil
                    go_wp2
                    all_goals
                      go_roundw
                      case rel =>
                        first
                          | exact ⟨i + 1, sl2, by omega, by go_num, rfl, by omega, by first | rfl | trivial⟩
                          | exact ⟨i + 1, sl2 ++ [d], by omega, by go_num, rfl, by rw [List.length_append, List.length_singleton]; omega, by first | rfl | trivial⟩
                          | ((repeat apply Exists.intro); exact ⟨⟨i + 1, sl2, by omega, by go_num, rfl, by omega, by first | rfl | trivial⟩, rfl⟩)
                          | ((repeat apply Exists.intro); exact ⟨⟨i + 1, sl2 ++ [d], by omega, by go_num, rfl, by rw [List.length_append, List.length_singleton]; omega, by first | rfl | trivial⟩, rfl⟩)
                      case measure => (simp [intOf]) <;> omega
                  · have hbsz : (bs l).size = m := by rw [bs_size]; exact HM.out
                    have hlm := HM.out
                    have k2 : (m : Int) ≤ (i : Int) := by omega
                    have a1 : ∀ w, (Op.stringOp .add (bs sl2) (⟨#[32]⟩ : ByteArray)).run Try.prog w = .ok (sv (sl2 ++ [32])) w := fun w => add_bs (a := sl2) (b := [32]) (by simp; omega) w
                    go_wp2_with fail
                    go_roundw
                    case rel =>
                      first
                        | exact ⟨j + 1, sl2 ++ [32], by omega, by go_num, rfl, by rw [List.length_append, List.length_singleton]; omega, by first | rfl | trivial⟩
                        | ((repeat apply Exists.intro); exact ⟨⟨j + 1, sl2 ++ [32], by omega, by go_num, rfl, by rw [List.length_append, List.length_singleton]; omega, by first | rfl | trivial⟩, rfl⟩)
                    case measure => (simp [intOf]) <;> omega
              · have j2 : (nf : Int) ≤ (j : Int) := by omega
                have a1 : ∀ w, (Op.stringOp .add (bs sl) (⟨#[13, 10]⟩ : ByteArray)).run Try.prog w = .ok (sv (sl ++ [13, 10])) w := fun w => add_bs (a := sl) (b := [13, 10]) (by simp; omega) w
                have hal2 : (sl ++ [13, 10]).length ≤ (k + 1) * 300 := by rw [List.length_append, List.length_cons, List.length_cons, List.length_nil]; omega
                go_wp2_with fail
                go_roundw
                case rel =>
                  first
                    | exact ⟨k + 1, sl ++ [13, 10], by omega, by omega, by go_num, rfl, hal2, hbl1⟩
                    | ((repeat apply Exists.intro); exact ⟨⟨k + 1, sl ++ [13, 10], by omega, by omega, by go_num, rfl, hal2, hbl1⟩, rfl⟩)
                case measure => (simp [intOf]) <;> omega
          · have n2 : (kd == 2) = false := by simpa using hk2
            have hcl := List.length_take_le 30 s.data.toList
            obtain ⟨T, hT⟩ : ∃ T, s.data.toList.take 30 = T := ⟨_, rfl⟩
            have hcut := cut_any s 30 wr hs (by omega)
            rw [hT] at hcl hcut
            obtain ⟨acc2, hacc2⟩ : ∃ acc2, acc ++ T = acc2 := ⟨_, rfl⟩
            have hal2 : acc2.length ≤ (k + 1) * 300 := by rw [← hacc2, List.length_append]; omega
            have a1 : ∀ w, (Op.stringOp .add (bs acc) (bs T)).run Try.prog w = .ok (sv acc2) w := fun w => by rw [← hacc2]; exact add_bs (by omega) w
            clear hT hacc2 hf5 hk1 hk2
            go_wp2_with fail
            refine hcut.mono ?_
            rintro e w1 ⟨rfl, rfl⟩
            go_wp2_with fail
            go_roundw
            case rel =>
              first
                | exact ⟨k + 1, acc2, by omega, by omega, by go_num, rfl, hal2, hbel⟩
                | ((repeat apply Exists.intro); exact ⟨⟨k + 1, acc2, by omega, by omega, by go_num, rfl, hal2, hbel⟩, rfl⟩)
            case measure => (simp [intOf]) <;> omega
      · have i2 : (k : Int) < (n : Int) := by omega
        have i3 : (8 : Int) ≤ (k : Int) := by omega
        go_wp2_with fail
        go_ret
        exact ⟨acc, rfl, by omega, hbel⟩
    · have i2 : (n : Int) ≤ (k : Int) := by omega
      go_wp2_with fail
      go_ret
      exact ⟨acc, rfl, by omega, hbel⟩
end Go.Proofs.Ytjdnpgdedbegfaa
