/- The walk of the law ReqQuotes. -/
import Derived.Test.YtjdnpgdedbegfaaLaw19b
namespace Go.Proofs.Ytjdnpgdedbegfaa
open Go.RowKit Go.Shelf
set_option linter.unusedVariables false

def qb (single : Bool) : UInt8 := if single then 39 else 34
/-- The inner loop's text. -/
def escs (single : Bool) (l : List UInt8) : List UInt8 := (l.map (Rq.escq (qb single))).flatten
theorem escs_snoc (single : Bool) (l : List UInt8) (c : UInt8) : escs single (l ++ [c]) = escs single l ++ Rq.escq (qb single) c := by unfold escs; simp
theorem escs_take (single : Bool) (l : List UInt8) (k : Nat) (hk : k < l.length) : escs single (l.take (k + 1)) = escs single (l.take k) ++ Rq.escq (qb single) l[k] := by
  rw [List.take_succ_eq_append_getElem hk, escs_snoc]
theorem escq_len (q c : UInt8) : (Rq.escq q c).length ≤ 2 := by unfold Rq.escq; split <;> split <;> simp
theorem escs_len (single : Bool) (l : List UInt8) : (escs single l).length ≤ 2 * l.length := by
  unfold escs
  induction l with
  | nil => simp
  | cons c t ih =>
    have := escq_len (qb single) c
    simp only [List.map_cons, List.flatten_cons, List.length_append, List.length_cons]
    omega
theorem quote_eq (single : Bool) (l : List UInt8) : Rq.quote (qb single) l = [32, qb single] ++ escs single l ++ [qb single] := by unfold Rq.quote escs; simp
theorem quotes_len (single : Bool) (ls : List (List UInt8)) (m : Nat) (h : ∀ s ∈ ls, s.length ≤ m) : ((ls.map (Rq.quote (qb single))).flatten).length ≤ ls.length * (2 * m + 3) := by
  induction ls with
  | nil => simp
  | cons s t ih =>
    have h1 := escs_len single s
    have h2 := h s (by simp)
    have h3 := ih (fun x hx => h x (by simp [hx]))
    simp only [List.map_cons, List.flatten_cons, List.length_append, List.length_cons, quote_eq, List.length_nil]
    rw [Nat.add_mul]
    omega
/-- Is there a 92 in a text that is to be quoted by single quotes? -/
def slashed (single : Bool) (l : List UInt8) : Prop := single = true ∧ 92 ∈ l

set_option maxRecDepth 100000 in
set_option maxHeartbeats 8000000 in
theorem reqQuotes_walk (v : Value) (ls : List (List UInt8)) (single : Bool) (w : World) (hv : Arg1 w v ls) (hm : Mx w) :
    Calls Try.prog 4 #[v, .bool single] w fun e w' => e = .returned (.bool true) ∧ Below w.heap.size w w' := by
  have hfl := fews_len ls 10 20
  have hfs := fews_size (ls := ls) (m := 10) (most := 20)
  have hfew := few_arg (v := v) (ls := ls) 10 20 w hv (by omega) (by omega)
  obtain ⟨X, hX⟩ : ∃ X, fews ls 10 20 = X := ⟨_, rfl⟩
  rw [hX] at hfl hfs hfew
  have HS := Lib.hid hfs
  clear hX hfs
  obtain ⟨n, hn⟩ : ∃ n, X.length = n := ⟨_, rfl⟩
  rw [hn] at hfl hfew
  have HN := Lib.hid hn
  clear hn
  obtain ⟨Av, nv, cv, rfl⟩ : ∃ A n c, v = .slice A n c := by obtain ⟨A, c, h, _⟩ := hv; exact ⟨A, _, c, h⟩
  go_enter Try.func4, Try.ntmps4
  go_wp2_with fail
  refine hfew.mono ?_
  rintro e w1 ⟨A1, c1, rfl, hO1, hb1⟩
  clear hfew
  go_wp2_with fail
  go_loopw [5, 6] (fun t x wr => ∃ k : Nat, k ≤ n ∧ x = .int .i64 k ∧ t = sv (((X.take k).map (Rq.quote (qb single))).flatten) ∧ Hid (∀ l ∈ X.take k, ¬ slashed single l) ∧ Own wr w.heap.size 9 1 (.slice A1 n c1) n (X.map sv) ∧ Below w.heap.size w wr) (fun _ x _ => n - (intOf x).toNat)
  case atStart => exact ⟨0, by omega, rfl, rfl, Lib.hid (fun l hl => by simp at hl), hO1, hb1⟩
  case round =>
    obtain ⟨k, hk, rfl, rfl, HSL, hO, hbel⟩ := hrel
    by_cases hkn : k < n
    · obtain ⟨a1, u, hA1, hb1, hu, hcell⟩ := (hO.own_reads (Nat.le_refl _)).at_ hkn
      subst hA1
      have hkX : k < X.length := by rw [HN.out]; exact hkn
      obtain ⟨l, hl⟩ : ∃ l, X[k] = l := ⟨_, rfl⟩
      obtain rfl : u = sv l := by rw [List.getElem?_map, List.getElem?_eq_getElem hkX, hl] at hu; injection hu with hu; exact hu.symm
      have i1 : (0 : Int) ≤ (k : Int) := by omega
      have i2 : (k : Int) < (n : Int) := by omega
      have hls := HS.out l (by rw [← hl]; exact List.getElem_mem hkX)
      obtain ⟨m, hlm⟩ : ∃ m, l.length = m := ⟨_, rfl⟩
      have HLM := Lib.hid hlm
      rw [hlm] at hls
      obtain ⟨S, hS⟩ : ∃ S, ((X.take k).map (Rq.quote (qb single))).flatten = S := ⟨_, rfl⟩
      have hSl : S.length ≤ k * 43 := by
        rw [← hS]
        have := quotes_len single (X.take k) 20 (fun s hs => HS.out s (List.mem_of_mem_take hs))
        rw [List.length_take] at this
        exact Nat.le_trans this (Nat.mul_le_mul_right _ (Nat.min_le_left _ _))
      rw [hS]
      have HS1 := Lib.hid (show ((X.take (k + 1)).map (Rq.quote (qb single))).flatten = S ++ Rq.quote (qb single) l by rw [List.take_succ_eq_append_getElem hkX, hl, List.map_append, List.flatten_append, hS]; simp)
      have HS2 := Lib.hid (show ∀ l' ∈ X.take (k + 1), l' ∈ X.take k ∨ l' = l by intro l' h; rw [List.take_succ_eq_append_getElem hkX, hl] at h; simpa using h)
      clear hS hl hu hlm hkX
      go_wp2_with fail
      obtain ⟨wo, rfl⟩ : ∃ wo : World, wo = wr := ⟨_, rfl⟩
      go_loopw [7, 8] (fun t x wr => ∃ j : Nat, j ≤ m ∧ x = .int .i64 j ∧ t = sv (escs single (l.take j)) ∧ Hid (¬ slashed single (l.take j)) ∧ wr = wo) (fun _ x _ => m - (intOf x).toNat)
      case atStart => exact ⟨0, by omega, rfl, rfl, Lib.hid (by simp [slashed]), rfl⟩
      case round =>
        obtain ⟨j, hj, rfl, rfl, HJ, rfl⟩ := hrel
        have hEl := escs_len single (l.take j)
        rw [List.length_take] at hEl
        by_cases hjm : j < m
        · have hjl : j < l.length := by rw [HLM.out]; exact hjm
          obtain ⟨d, hd⟩ : ∃ d, l[j] = d := ⟨_, rfl⟩
          have hex : (bs l).extract j (j + 1) = bs [d] := by
            rw [bs_extract, bs_data, List.drop_eq_getElem_cons hjl, hd]; simp [show j + 1 - j = 1 from by omega]
          have hEt := escs_take single l j hjl
          rw [hd] at hEt
          have hsl := Lib.hid (show slashed single (l.take (j + 1)) ↔ slashed single (l.take j) ∨ (single = true ∧ d = 92) by
            unfold slashed; rw [List.take_succ_eq_append_getElem hjl, hd, List.mem_append, List.mem_singleton]
            constructor
            · rintro ⟨h1, h2 | h2⟩
              · exact .inl ⟨h1, h2⟩
              · exact .inr ⟨h1, h2.symm⟩
            · rintro (⟨h1, h2⟩ | ⟨h1, h2⟩)
              · exact ⟨h1, .inl h2⟩
              · exact ⟨h1, .inr h2.symm⟩)
          obtain ⟨E, hE⟩ : ∃ E, escs single (l.take j) = E := ⟨_, rfl⟩
          rw [hE] at hEt hEl ⊢
          have HET := Lib.hid hEt
          have i3 : (j : Int) < (m : Int) := by omega
          have i4 : (0 : Int) ≤ (j : Int) := by omega
          have i5 : (j : Int) + 1 ≤ (m : Int) := by omega
          have hlb : (bs l).size = m := by rw [bs_size]; exact HLM.out
          have hsz := HLM.out
          clear hE hEt hd hjl
          rcases single with _ | _
          · have hns : ¬ slashed false (l.take (j + 1)) := fun h => by cases h.1
            by_cases hc : d = 34 ∨ d = 92
            · have HQ := Lib.hid (show escs false (l.take (j + 1)) = E ++ [92] ++ [d] by rw [HET.out, show qb false = 34 from rfl, Rq.escq_c hc]; simp)
              have a1 : ∀ w, (Op.stringOp .add (bs E) (⟨#[92]⟩ : ByteArray)).run Try.prog w = .ok (sv (E ++ [92])) w := fun w => add_bs (a := E) (b := [92]) (by simp; omega) w
              have a2 : ∀ w, (Op.stringOp .add (bs (E ++ [92])) (bs [d])).run Try.prog w = .ok (sv (E ++ [92] ++ [d])) w := fun w => add_bs (by simp; omega) w
              rcases hc with rfl | rfl
              all_goals
                go_wp2_with fail
                go_roundw
                case rel =>
                  first
                    | exact ⟨j + 1, by omega, by go_num, by rw [HQ.out]; (try rfl); (try simp), Lib.hid (by exact hns), by first | rfl | trivial⟩
                    | ((repeat apply Exists.intro); exact ⟨⟨j + 1, by omega, by go_num, by rw [HQ.out]; (try rfl); (try simp), Lib.hid (by exact hns), by first | rfl | trivial⟩, rfl⟩)
                case measure => (simp [intOf]) <;> omega
            · have HQ := Lib.hid (show escs false (l.take (j + 1)) = E ++ [d] by rw [HET.out, show qb false = 34 from rfl, Rq.escq_d hc])
              have a1 : ∀ w, (Op.stringOp .add (bs E) (bs [d])).run Try.prog w = .ok (sv (E ++ [d])) w := fun w => add_bs (by simp; omega) w
              have n1 : ¬ d = 34 := fun e => hc (.inl e)
              have n2 : ¬ d = 92 := fun e => hc (.inr e)
              have q1 : ([d] == [34]) = false := by simpa using n1
              have q2 : ([d] == [92]) = false := by simpa using n2
              have q3 : (d == 34) = false := by simpa using n1
              have q4 : (d == 92) = false := by simpa using n2
              clear hc
              go_wp2_with fail
              go_roundw
              case rel =>
                first
                  | exact ⟨j + 1, by omega, by go_num, by rw [HQ.out]; (try rfl); (try simp), Lib.hid (by exact hns), by first | rfl | trivial⟩
                  | ((repeat apply Exists.intro); exact ⟨⟨j + 1, by omega, by go_num, by rw [HQ.out]; (try rfl); (try simp), Lib.hid (by exact hns), by first | rfl | trivial⟩, rfl⟩)
              case measure => (simp [intOf]) <;> omega
          · by_cases hc : d = 39
            · subst hc
              have HQ := Lib.hid (show escs true (l.take (j + 1)) = E ++ [92, 39] by rw [HET.out, show qb true = 39 from rfl, Rq.escq_q])
              have a1 : ∀ w, (Op.stringOp .add (bs E) (⟨#[92, 39]⟩ : ByteArray)).run Try.prog w = .ok (sv (E ++ [92, 39])) w := fun w => add_bs (a := E) (b := [92, 39]) (by simp; omega) w
              go_wp2_with fail
              go_roundw
              case rel =>
                first
                  | exact ⟨j + 1, by omega, by go_num, by rw [HQ.out]; (try rfl); (try simp), Lib.hid (by intro h; rcases hsl.out.mp h with h | ⟨_, h⟩; exact HJ.out h; exact absurd h (by decide)), by first | rfl | trivial⟩
                  | ((repeat apply Exists.intro); exact ⟨⟨j + 1, by omega, by go_num, by rw [HQ.out]; (try rfl); (try simp), Lib.hid (by intro h; rcases hsl.out.mp h with h | ⟨_, h⟩; exact HJ.out h; exact absurd h (by decide)), by first | rfl | trivial⟩, rfl⟩)
              case measure => (simp [intOf]) <;> omega
            · by_cases hc2 : d = 92
              · subst hc2
                go_wp2_with fail
                refine (known_any _ (hm.below_ hbel)).mono ?_
                rintro e w2 ⟨rfl, hb2⟩
                go_wp2_with fail
                go_ret
                exact ⟨rfl, below_trans hbel hb2⟩
              · have HQ := Lib.hid (show escs true (l.take (j + 1)) = E ++ [d] by rw [HET.out, show qb true = 39 from rfl, Rq.escq_s hc])
                have a1 : ∀ w, (Op.stringOp .add (bs E) (bs [d])).run Try.prog w = .ok (sv (E ++ [d])) w := fun w => add_bs (by simp; omega) w
                have q1 : ([d] == [39]) = false := by simpa using hc
                have q2 : ([d] == [92]) = false := by simpa using hc2
                have q3 : (d == 39) = false := by simpa using hc
                have q4 : (d == 92) = false := by simpa using hc2
                have HC2 := Lib.hid hc2
                go_wp2_with fail
                go_roundw
                case rel =>
                  first
                    | exact ⟨j + 1, by omega, by go_num, by rw [HQ.out]; (try rfl); (try simp), Lib.hid (by intro h; rcases hsl.out.mp h with h | ⟨_, h⟩; exact HJ.out h; exact HC2.out h), by first | rfl | trivial⟩
                    | ((repeat apply Exists.intro); exact ⟨⟨j + 1, by omega, by go_num, by rw [HQ.out]; (try rfl); (try simp), Lib.hid (by intro h; rcases hsl.out.mp h with h | ⟨_, h⟩; exact HJ.out h; exact HC2.out h), by first | rfl | trivial⟩, rfl⟩)
                case measure => (simp [intOf]) <;> omega
        · have i3 : (m : Int) ≤ (j : Int) := by omega
          have hsz := HLM.out
          have hlb : (bs l).size = m := by rw [bs_size]; exact HLM.out
          have ht : l.take j = l := List.take_of_length_le (by rw [HLM.out]; omega)
          rw [ht] at HJ hEl ⊢
          have hSLn := Lib.hid (show ∀ l' ∈ X.take (k + 1), ¬ slashed single l' by
            intro l' h
            rcases HS2.out l' h with h | rfl
            · exact HSL.out l' h
            · exact HJ.out)
          have hq := quote_eq single l
          obtain ⟨E, hE⟩ : ∃ E, escs single l = E := ⟨_, rfl⟩
          rw [hE] at hq hEl ⊢
          have HQ := Lib.hid hq
          clear hE hq ht
          rcases single with _ | _
          · obtain ⟨S2, hS2⟩ : ∃ S2, S ++ [32, 34] = S2 := ⟨_, rfl⟩
            obtain ⟨S3, hS3⟩ : ∃ S3, S2 ++ E = S3 := ⟨_, rfl⟩
            have hl2 : S2.length ≤ 500 := by rw [← hS2]; simp; omega
            have hl3 : S3.length ≤ 600 := by rw [← hS3]; simp; omega
            have a1 : ∀ w, (Op.stringOp .add (bs S) (⟨#[32, 34]⟩ : ByteArray)).run Try.prog w = .ok (sv S2) w := fun w => by rw [← hS2]; exact add_bs (a := S) (b := [32, 34]) (by simp; omega) w
            have a2 : ∀ w, (Op.stringOp .add (bs S2) (bs E)).run Try.prog w = .ok (sv S3) w := fun w => by rw [← hS3]; exact add_bs (by omega) w
            have a3 : ∀ w, (Op.stringOp .add (bs S3) (⟨#[34]⟩ : ByteArray)).run Try.prog w = .ok (sv (S3 ++ [34])) w := fun w => add_bs (a := S3) (b := [34]) (by simp; omega) w
            have HF := Lib.hid (show ((X.take (k + 1)).map (Rq.quote (qb false))).flatten = S3 ++ [34] by rw [HS1.out, HQ.out, ← hS3, ← hS2]; simp [qb])
            clear hS2 hS3
            go_wp2_with fail
            go_roundw
            case rel =>
              first
                | exact ⟨k + 1, by omega, by go_num, by rw [HF.out]; (try rfl); (try simp), hSLn, hO, hbel⟩
                | ((repeat apply Exists.intro); exact ⟨⟨k + 1, by omega, by go_num, by rw [HF.out]; (try rfl); (try simp), hSLn, hO, hbel⟩, rfl⟩)
            case measure => (simp [intOf]) <;> omega
          · obtain ⟨S2, hS2⟩ : ∃ S2, S ++ [32, 39] = S2 := ⟨_, rfl⟩
            obtain ⟨S3, hS3⟩ : ∃ S3, S2 ++ E = S3 := ⟨_, rfl⟩
            have hl2 : S2.length ≤ 500 := by rw [← hS2]; simp; omega
            have hl3 : S3.length ≤ 600 := by rw [← hS3]; simp; omega
            have a1 : ∀ w, (Op.stringOp .add (bs S) (⟨#[32, 39]⟩ : ByteArray)).run Try.prog w = .ok (sv S2) w := fun w => by rw [← hS2]; exact add_bs (a := S) (b := [32, 39]) (by simp; omega) w
            have a2 : ∀ w, (Op.stringOp .add (bs S2) (bs E)).run Try.prog w = .ok (sv S3) w := fun w => by rw [← hS3]; exact add_bs (by omega) w
            have a3 : ∀ w, (Op.stringOp .add (bs S3) (⟨#[39]⟩ : ByteArray)).run Try.prog w = .ok (sv (S3 ++ [39])) w := fun w => add_bs (a := S3) (b := [39]) (by simp; omega) w
            have HF := Lib.hid (show ((X.take (k + 1)).map (Rq.quote (qb true))).flatten = S3 ++ [39] by rw [HS1.out, HQ.out, ← hS3, ← hS2]; simp [qb])
            clear hS2 hS3
            go_wp2_with fail
            go_roundw
            case rel =>
              first
                | exact ⟨k + 1, by omega, by go_num, by rw [HF.out]; (try rfl); (try simp), hSLn, hO, hbel⟩
                | ((repeat apply Exists.intro); exact ⟨⟨k + 1, by omega, by go_num, by rw [HF.out]; (try rfl); (try simp), hSLn, hO, hbel⟩, rfl⟩)
            case measure => (simp [intOf]) <;> omega
    · have i2 : (n : Int) ≤ (k : Int) := by omega
      have ht : X.take k = X := List.take_of_length_le (by rw [HN.out]; omega)
      rw [ht] at HSL ⊢
      have hq := Rq.words_quotes (qb single) (by unfold qb; cases single; exact .inl rfl; exact .inr rfl) X (fun e l hl c hc e2 => HSL.out l hl ⟨by cases single; exact absurd e (by decide); rfl, by rw [← e2]; exact hc⟩) (by rw [HN.out]; omega)
      have hSl := quotes_len single X 20 HS.out
      obtain ⟨S, hS⟩ : ∃ S, (X.map (Rq.quote (qb single))).flatten = S := ⟨_, rfl⟩
      rw [hS] at hq hSl ⊢
      rw [HN.out] at hSl
      have HQ := Lib.hid (show Rq.words (bs S).data.toList = some X by rw [bs_data]; exact hq)
      have HLS := Lib.hid (show ∀ x ∈ X.map sv, ∃ s, x = Value.string s from fun x hx => by obtain ⟨s, _, rfl⟩ := List.mem_map.mp hx; exact ⟨_, rfl⟩)
      clear hS hq ht
      go_wp2_with fail
      refine (words_yes (bs S) wr (by rw [bs_size]; omega) HQ.out).mono ?_
      rintro e w2 ⟨v2, rfl, hO2, hb2⟩
      obtain ⟨A2, c2, rfl⟩ := hO2.sliceForm
      rw [HN.out] at hO2 ⊢
      have hO' := hO.below_ hb2
      have hbl2 := below_trans hbel hb2
      go_wp2_with fail
      refine (lists_same _ (by unfold maxLen; omega) (hO2.own_reads (Nat.le_refl _)) (hO'.own_reads (Nat.le_refl _)) HLS.out).mono ?_
      rintro e w3 ⟨rfl, q, rfl⟩
      have hblB := Lib.below_drewN' hbl2 q
      go_wp2_with fail
      refine (known_any _ (hm.below_ hblB)).mono ?_
      rintro e wC ⟨rfl, hbC⟩
      go_wp2_with fail
      go_ret
      exact ⟨rfl, below_trans hblB hbC⟩
end Go.Proofs.Ytjdnpgdedbegfaa
