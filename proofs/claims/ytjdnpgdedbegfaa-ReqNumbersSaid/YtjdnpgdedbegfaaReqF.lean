/- The walks of Few, Lists (package tallboykeep), Make (package req). -/
import Derived.Test.YtjdnpgdedbegfaaReqA
import Derived.Test.YtjdnpgdedbegfaaKeep
namespace Go.Proofs.Ytjdnpgdedbegfaa
open Go.RowKit Go.Shelf
set_option linter.unusedVariables false

theorem sv_inj {l m : List (List UInt8)} : l.map sv = m.map sv → l = m := by
  intro h
  induction l generalizing m with
  | nil => cases m with
    | nil => rfl
    | cons _ _ => simp at h
  | cons a t ih => cases m with
    | nil => simp at h
    | cons b u =>
      simp only [List.map_cons, List.cons.injEq] at h
      rw [ih h.2]
      have := h.1
      simp only [Value.string.injEq] at this
      rw [bs_inj this]
theorem Reads.strAt {w : World} {B n : Nat} {a : Addr} {ls : List (List UInt8)} (h : Reads w B 1 (some a) n (ls.map sv)) (k : Nat) (hk : k < n) (hkl : k < ls.length) : w.cell? (a.add k) = some (sv ls[k]) := by
  obtain ⟨ad, u, h1, h2, h3, h4⟩ := h.at_ hk
  injection h1 with h1
  subst h1
  rw [h4, ← h3]
  simp [hkl]
theorem Reads.addr {w : World} {B n : Nat} {A : Option Addr} {xs : List Value} (h : Reads w B 1 A n xs) (hn : 0 < n) : ∃ a, A = some a ∧ a.block < B := by
  obtain ⟨ad, u, h1, h2, h3⟩ := h.at_ (k := 0) hn
  exact ⟨ad, h1, h2⟩
def fews (ls : List (List UInt8)) (m most : Nat) : List (List UInt8) := (ls.take m).map (·.take most)
theorem fews_len (ls : List (List UInt8)) (m most : Nat) : (fews ls m most).length ≤ m := by unfold fews; rw [List.length_map, List.length_take]; omega
theorem fews_size {ls : List (List UInt8)} {m most : Nat} : ∀ s ∈ fews ls m most, s.length ≤ most := by
  intro s hs
  unfold fews at hs
  obtain ⟨x, _, rfl⟩ := List.mem_map.mp hs
  rw [List.length_take]; omega

set_option maxRecDepth 100000 in
set_option maxHeartbeats 4000000 in
theorem few_any {B c : Nat} {A : Option Addr} {ls : List (List UInt8)} (m most : Nat) (w : World) (h : Reads w B 1 A ls.length (ls.map sv)) (hB : B ≤ w.heap.size) (hl : ls.length ≤ maxLen) (hs : ∀ s ∈ ls, s.length ≤ maxLen) (hm : m ≤ 1000) (hmost : most ≤ 1000) :
    Calls Try.prog 14 #[.slice A ls.length c, .int .i64 m, .int .i64 most] w fun e w' => ∃ v, e = .returned v ∧ Own w' w.heap.size 9 1 v (fews ls m most).length ((fews ls m most).map sv) ∧ Below w.heap.size w w' := by
  obtain ⟨i0, hi, hz0, hz1, hz2⟩ := info_parts strinfo
  unfold maxLen at hl
  obtain ⟨n, hn⟩ : ∃ n, ls.length = n := ⟨_, rfl⟩
  rw [hn] at h hl ⊢
  have HN := Lib.hid hn
  have HS := Lib.hid hs
  clear hn hs
  go_enter Try.func14, Try.ntmps14
  go_wp2_with fail
  go_loopw [7, 8] (fun v x wr => ∃ k : Nat, k ≤ n ∧ k ≤ m ∧ x = .int .i64 k ∧ Own wr w.heap.size 9 1 v k (((ls.take k).map (·.take most)).map sv) ∧ Below w.heap.size w wr) (fun _ x _ => n - (intOf x).toNat)
  case atStart => exact ⟨0, by omega, by omega, rfl, Own.nil _ _ _ _, Below.refl _ _⟩
  case round =>
    obtain ⟨k, hk1, hk2, rfl, hob, hbel⟩ := hrel
    have hbs : w.heap.size ≤ wr.heap.size := hbel.size
    obtain ⟨A2, cc, rfl⟩ := hob.sliceForm
    by_cases hkn : k < n
    · by_cases hkm : k < m
      · obtain ⟨a, rfl, hab⟩ := h.addr (by omega)
        have hkl : k < ls.length := by rw [HN.out]; exact hkn
        have hcell := (h.keep (w' := wr) (fun q hq => hbel.cell (by omega))).strAt k hkn hkl
        have hsk := HS.out _ (List.getElem_mem hkl)
        obtain ⟨s, hs⟩ : ∃ s, ls[k] = s := ⟨_, rfl⟩
        rw [hs] at hcell hsk
        have HO := Lib.hid (show ((ls.take (k + 1)).map (·.take most)).map sv = ((ls.take k).map (·.take most)).map sv ++ [sv (s.take most)] by
          rw [List.take_succ_eq_append_getElem hkl, hs]; simp)
        have hkn' : (k : Int) < (n : Int) := by omega
        have hkm' : (k : Int) < (m : Int) := by omega
        have h0k : (0 : Int) ≤ (k : Int) := by omega
        clear hs hkl
        go_wp2_with (first
          | (go_at_call 9; refine (cut_any (bs s) most _ (by rw [bs_size]; exact hsk) (by omega)).mono ?_; rintro e w1 ⟨rfl, rfl⟩; rw [bs_data])
          | (at_builtin; refine wpList_append_Own _ rfl (.tmp 20) (.tmp 27) _ _ rfl w.heap.size 9 i0 _ 1 16 Try.underlying33 hi hz0 hz1 hz2 rfl (.slice A2 k cc) k _ rfl (hob.alloc _) _ 1 [sv (s.take most)] rfl (Src.own (Own.lit (base := w.heap.size) wr #[sv (s.take most)] 1 hbs (by decide) rfl) Try.underlying33 (by intro v hv; simp at hv; subst hv; rfl) (by decide)) (by unfold maxLen; omega) (by omega) (by simp; omega) ?_; intro v1 w2 hO2 hgr hat))
        have hO3 : Own w2 w.heap.size 9 1 v1 (k + 1) (((ls.take (k + 1)).map (·.take most)).map sv) := by rw [HO.out]; exact hO2
        have hb3 : Below w.heap.size w w2 := (hbel.alloc hbs _).grown hgr (by simp; omega) (fun k hk => (hob.lt k hk).1)
        go_roundw
        case rel =>
          first
            | exact ⟨k + 1, by omega, by omega, by go_num, hO3, hb3⟩
            | ((repeat apply Exists.intro); exact ⟨⟨k + 1, by omega, by omega, by go_num, hO3, hb3⟩, rfl⟩)
        case measure => (simp [intOf]) <;> omega
      · have hkm' : (m : Int) ≤ (k : Int) := by omega
        have hkn' : (k : Int) < (n : Int) := by omega
        have HO := Lib.hid (show k = m by omega)
        go_wp2_with fail
        go_ret
        refine ⟨_, rfl, ?_, hbel⟩
        have hk : k = m := HO.out
        have hf : (fews ls m most).length = k := by unfold fews; rw [List.length_map, List.length_take, HN.out]; omega
        rw [hf]; unfold fews; rw [← hk]; exact hob
    · have hkn' : (n : Int) ≤ (k : Int) := by omega
      have HO := Lib.hid (show k = n by omega)
      go_wp2_with fail
      go_ret
      refine ⟨_, rfl, ?_, hbel⟩
      have hk : k = n := HO.out
      have hf : (fews ls m most).length = k := by unfold fews; rw [List.length_map, List.length_take, HN.out]; omega
      rw [hf]; unfold fews
      rw [List.take_of_length_le (by rw [HN.out]; omega), ← List.take_of_length_le (l := ls) (i := k) (by rw [HN.out]; omega)]
      exact hob

set_option maxRecDepth 100000 in
set_option maxHeartbeats 4000000 in
theorem lists_same {B1 B2 n c1 c2 : Nat} {A1 A2 : Option Addr} {xs : List Value} (w : World) (hn : n ≤ maxLen) (h1 : Reads w B1 1 A1 n xs) (h2 : Reads w B2 1 A2 n xs) (hx : ∀ x ∈ xs, ∃ s, x = .string s) :
    Calls Try.prog 12 #[.slice A1 n c1, .slice A2 n c2] w fun e w' => e = .returned (.bool true) ∧ ∃ q, w' = w.drewN q := by
  unfold maxLen at hn
  have HX := Lib.hid hx
  clear hx
  go_enter Try.func12, Try.ntmps12
  go_wp2_with fail
  go_loopw [5] (fun x wr => ∃ k q : Nat, k ≤ n ∧ x = .int .i64 k ∧ wr = w.drewN q) (fun x _ => n - (intOf x).toNat)
  case atStart => exact ⟨0, 0, by omega, rfl, rfl⟩
  case round =>
    obtain ⟨k, q, hk, rfl, rfl⟩ := hrel
    by_cases hkn : k < n
    · obtain ⟨a1, u, rfl, hb1, hu, hc1⟩ := h1.at_ hkn
      obtain ⟨a2, u2, rfl, hb2, hu2, hc2⟩ := h2.at_ hkn
      obtain rfl : u = u2 := by rw [hu] at hu2; injection hu2
      obtain ⟨s, rfl⟩ := HX.out u (List.mem_of_getElem? hu)
      have i1 : (0 : Int) ≤ (k : Int) := by omega
      have i2 : (k : Int) < (n : Int) := by omega
      clear hu hu2
      go_wp2_with fail
      go_quiet (fail)
      go_wp2_with fail
      go_roundw
      case rel => exact ⟨k + 1, q + nq, by omega, by go_num, rfl⟩
      case measure => (simp [intOf]) <;> omega
    · have hkn' : (n : Int) ≤ (k : Int) := by omega
      go_wp2_with fail
      go_ret
      exact ⟨rfl, q, rfl⟩

theorem mk_lit (l : List UInt8) : Value.string ⟨l.toArray⟩ = sv l := rfl
theorem add_bs {a b : List UInt8} (h : a.length + b.length ≤ 9223372036854775807) (w : World) : (Op.stringOp .add (bs a) (bs b)).run Try.prog w = .ok (sv (a ++ b)) w :=
  (run_string_add_sum w _ _ (by simp; omega)).trans (by rw [bs_append])
theorem mkBulk_len (s : List UInt8) : (Rq.mkBulk s).length ≤ s.length + 26 ∧ s.length ≤ (Rq.mkBulk s).length := by
  have := (Num.fmt_length (s.length : Int)).2
  unfold Rq.mkBulk
  simp only [List.length_cons, List.length_append, List.length_nil]
  omega
theorem bulks_len (ls : List (List UInt8)) (m : Nat) (h : ∀ s ∈ ls, s.length ≤ m) : (ls.map Rq.mkBulk).flatten.length ≤ ls.length * (m + 26) := by
  induction ls with
  | nil => simp
  | cons s t ih =>
    have h1 := (mkBulk_len s).1
    have h2 := h s (by simp)
    have h3 := ih (fun x hx => h x (by simp [hx]))
    simp only [List.map_cons, List.flatten_cons, List.length_append, List.length_cons]
    rw [Nat.add_mul]
    omega

set_option maxRecDepth 100000 in
set_option maxHeartbeats 4000000 in
theorem make_any {B c : Nat} {A : Option Addr} {ls : List (List UInt8)} (w : World) (h : Reads w B 1 A ls.length (ls.map sv)) (hB : B ≤ w.heap.size) (hl : ls.length ≤ 256) (hs : ∀ s ∈ ls, s.length ≤ 65536) :
    Calls Try.prog 19 #[.slice A ls.length c] w fun e w' => ∃ v, e = .returned v ∧ OB w' w.heap.size 5 v (Rq.make ls) ∧ Below w.heap.size w w' := by
  obtain ⟨i0, hi, hz0, hz1, hz2⟩ := info_parts u8info
  have hlen := bulks_len ls 65536 hs
  obtain ⟨n, hn⟩ : ∃ n, ls.length = n := ⟨_, rfl⟩
  rw [hn] at h hl ⊢
  have hfl := Num.fmt_length (n : Int)
  obtain ⟨f, hf⟩ : ∃ f, Num.fmt (n : Int) = f := ⟨_, rfl⟩
  have hfm := fun w => format_any (n : Int) w (by omega) (by omega)
  rw [hf] at hfl hfm
  have HM := Lib.hid (show Rq.make ls = ((42 :: f) ++ [13, 10]) ++ (ls.map Rq.mkBulk).flatten by unfold Rq.make; rw [hn, hf]; simp)
  have HN := Lib.hid hn
  have HS := Lib.hid hs
  obtain ⟨hd, hhd⟩ : ∃ hd, (42 :: f) ++ [13, 10] = hd := ⟨_, rfl⟩
  have hdl : hd.length ≤ 40 := by rw [← hhd]; simp; omega
  rw [hhd] at HM
  have hadd1 : ∀ w, (Op.stringOp .add (⟨#[42]⟩ : ByteArray) (bs f)).run Try.prog w = .ok (sv (42 :: f)) w := fun w => add_bs (a := [42]) (b := f) (by simp; omega) w
  have hadd2 : ∀ w, (Op.stringOp .add (bs (42 :: f)) (⟨#[13, 10]⟩ : ByteArray)).run Try.prog w = .ok (sv hd) w := fun w => by rw [← hhd]; exact add_bs (a := 42 :: f) (b := [13, 10]) (by simp; omega) w
  have hcv := fun w => run_bytes_of_string (P := Try.prog) w 9 30 5 (bs hd) Try.underlying9 Try.underlying30 Try.underlying5
  rw [bs_size] at hcv
  have hob0 := fun (w' : World) (hb : w.heap.size ≤ w'.heap.size) => OB.of_convert (w := w') (bs hd) 5 w.heap.size hb (by rw [bs_size]; unfold maxLen; omega)
  rw [bs_size] at hob0
  have Hob0 := Lib.hid hob0
  have hnil : A = none → n = 0 := fun e => by
    rcases Nat.eq_zero_or_pos n with h0 | h0
    · exact h0
    · obtain ⟨a, e', _⟩ := h.addr h0; rw [e] at e'; cases e'
  have HNIL := Lib.hid hnil
  clear hf hob0 hn hs hhd hnil
  go_enter Try.func19, Try.ntmps19
  go_wp2_with fail
  refine (hfm w).mono ?_
  rintro e w1 ⟨rfl, hb1⟩
  have hob1 := Hob0.out w1 hb1.size
  rw [bs_data] at hob1
  have hb2 : Below w.heap.size w (w1.drew.alloc (.cells (bytesRow (bs hd) (grownCap w1 hd.length 0 5)) 5 ((bytesRow (bs hd) (grownCap w1 hd.length 0 5)).size, (bytesRow (bs hd) (grownCap w1 hd.length 0 5)).size + 1))) := hb1.drew.alloc hb1.size _
  have HO1 := Lib.hid hob1
  have HB2 := Lib.hid hb2
  clear hob1 hb2
  go_wp2_with fail
  go_loopw [3, 14] (fun v x wr => ∃ (k : Nat) (acc : List UInt8), k ≤ n ∧ x = .int .i64 k ∧ OB wr w.heap.size 5 v acc ∧ Hid (acc = hd ++ ((ls.take k).map Rq.mkBulk).flatten) ∧ acc.length ≤ 40 + k * 65562 ∧ Below w.heap.size w wr) (fun _ x _ => n - (intOf x).toNat)
  case atStart => exact ⟨0, hd, by omega, rfl, HO1.out, Lib.hid (by simp), by omega, HB2.out⟩
  case round =>
    clear HO1 HB2 hcv hadd1 hadd2 Hob0 hb1 hfm
    obtain ⟨k, acc, hk, rfl, hob, HA, hal, hbel⟩ := hrel
    have hbs : w.heap.size ≤ wr.heap.size := hbel.size
    obtain ⟨A2, cc, rfl⟩ := hob.sliceForm
    by_cases hkn : k < n
    · obtain ⟨a, rfl, hab⟩ := h.addr (by omega)
      have hkl : k < ls.length := by rw [HN.out]; exact hkn
      have hcell := (h.keep (w' := wr) (fun q hq => hbel.cell (by omega))).strAt k hkn hkl
      have hsk := HS.out _ (List.getElem_mem hkl)
      obtain ⟨s, hs⟩ : ∃ s, ls[k] = s := ⟨_, rfl⟩
      rw [hs] at hcell hsk
      have hml := (mkBulk_len s).1
      have HO := Lib.hid (show acc ++ Rq.mkBulk s = hd ++ ((ls.take (k + 1)).map Rq.mkBulk).flatten by
        rw [List.take_succ_eq_append_getElem hkl, hs, HA.out]; simp)
      have hfl := Num.fmt_length (s.length : Int)
      obtain ⟨f2, hf2⟩ : ∃ f2, Num.fmt (s.length : Int) = f2 := ⟨_, rfl⟩
      have hfm := fun w => format_any (s.length : Int) w (by omega) (by omega)
      rw [hf2] at hfl hfm
      have HMB := Lib.hid (show Rq.mkBulk s = (36 :: f2) ++ [13, 10] ++ s ++ [13, 10] by unfold Rq.mkBulk; rw [hf2]; simp)
      obtain ⟨mb, hmb⟩ : ∃ mb, Rq.mkBulk s = mb := ⟨_, rfl⟩
      rw [hmb] at hml HO HMB
      obtain ⟨b2, hb2⟩ : ∃ b2, (36 :: f2) ++ [13, 10] = b2 := ⟨_, rfl⟩
      obtain ⟨b3, hb3⟩ : ∃ b3, b2 ++ s = b3 := ⟨_, rfl⟩
      rw [hb2, hb3] at HMB
      have hl2 : b2.length ≤ 40 := by rw [← hb2]; simp; omega
      have hl3 : b3.length ≤ 40 + s.length := by rw [← hb3]; simp; omega
      have a1 : ∀ w, (Op.stringOp .add (⟨#[36]⟩ : ByteArray) (bs f2)).run Try.prog w = .ok (sv (36 :: f2)) w := fun w => add_bs (a := [36]) (b := f2) (by simp; omega) w
      have a2 : ∀ w, (Op.stringOp .add (bs (36 :: f2)) (⟨#[13, 10]⟩ : ByteArray)).run Try.prog w = .ok (sv b2) w := fun w => by rw [← hb2]; exact add_bs (a := 36 :: f2) (b := [13, 10]) (by simp; omega) w
      have a3 : ∀ w, (Op.stringOp .add (bs b2) (bs s)).run Try.prog w = .ok (sv b3) w := fun w => by rw [← hb3]; exact add_bs (by omega) w
      have a4 : ∀ w, (Op.stringOp .add (bs b3) (⟨#[13, 10]⟩ : ByteArray)).run Try.prog w = .ok (sv mb) w := fun w => by rw [HMB.out]; exact add_bs (b := [13, 10]) (by simp; omega) w
      clear hb2 hb3 hmb
      have hkn' : (k : Int) < (n : Int) := by omega
      have h0k : (0 : Int) ≤ (k : Int) := by omega
      clear hs hkl hf2
      go_wp2_with fail
      refine (hfm _).mono ?_
      rintro e w3 ⟨rfl, hb3⟩
      have hob3 := Own.below_ hob hb3
      have hbl3 := hbel.trans (hb3.mono hbs)
      have hbs3 : w.heap.size ≤ w3.heap.size := hbl3.size
      go_wp2_with (at_builtin; refine wpList_append_Own _ rfl (.tmp 18) (.tmp 26) _ _ rfl w.heap.size 5 i0 _ 1 1 Try.underlying30 hi hz0 hz1 hz2 rfl (.slice A2 acc.length cc) acc.length (bv acc) rfl hob3 _ _ _ rfl (Src.str (bs mb) Try.underlying9) (by rw [bs_size]; unfold maxLen; omega) (by rw [bs_size]; omega) (by omega) ?_; intro v1 w2 hO2 hgr hat)
      rw [bs_size, strCells_bv, bs_data, ← bv_append] at hO2
      have hO3 : OB w2 w.heap.size 5 v1 (acc ++ mb) := OB.mk hO2 rfl
      have hb4 : Below w.heap.size w w2 := hbl3.grown hgr hbs3 (fun k hk => (hob3.lt k hk).1)
      go_roundw
      case rel =>
        first
          | exact ⟨k + 1, acc ++ mb, by omega, by go_num, hO3, HO, by rw [List.length_append]; omega, hb4⟩
          | ((repeat apply Exists.intro); exact ⟨⟨k + 1, acc ++ mb, by omega, by go_num, hO3, HO, by rw [List.length_append]; omega, hb4⟩, rfl⟩)
      case measure => (simp [intOf]) <;> omega
    · have hkn' : (n : Int) ≤ (k : Int) := by omega
      have HO := Lib.hid (show k = n by omega)
      go_wp2_with fail
      go_ret
      refine ⟨_, rfl, ?_, hbel⟩
      have hk : k = n := HO.out
      have : Rq.make ls = acc := by rw [HM.out, HA.out, hk, List.take_of_length_le (by rw [HN.out]; omega)]
      rw [this]; exact hob
end Go.Proofs.Ytjdnpgdedbegfaa
