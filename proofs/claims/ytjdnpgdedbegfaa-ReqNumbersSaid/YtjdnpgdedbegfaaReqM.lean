/- The walk of array. -/
import Derived.Test.YtjdnpgdedbegfaaReqL
namespace Go.Proofs.Ytjdnpgdedbegfaa.Rq
/-- Bulks, with acc read already and k to go. -/
def BsAt (l0 : B) (N k : Nat) (acc : List B) (rest : B) : Prop :=
  bulks N l0 = match bulks k rest with
    | none => none
    | some none => some none
    | some (some (ss, r)) => some (some (acc ++ ss, r))
theorem BsAt.start (l0 : B) (N : Nat) : BsAt l0 N N [] l0 := by
  unfold BsAt
  rcases bulks N l0 with _ | _ | ⟨ss, r⟩ <;> rfl
theorem BsAt.bad {l0 rest : B} {N k : Nat} {acc : List B} (h : BsAt l0 N (k + 1) acc rest) (hb : bulk rest = none) : bulks N l0 = none := by
  unfold BsAt at h; rw [h]; simp [bulks, hb]
theorem BsAt.part {l0 rest : B} {N k : Nat} {acc : List B} (h : BsAt l0 N (k + 1) acc rest) (hb : bulk rest = some none) : bulks N l0 = some none := by
  unfold BsAt at h; rw [h]; simp [bulks, hb]
theorem BsAt.next {l0 rest : B} {N k : Nat} {acc : List B} (h : BsAt l0 N (k + 1) acc rest) {s r : B} (hb : bulk rest = some (some (s, r))) : BsAt l0 N k (acc ++ [s]) r := by
  unfold BsAt at h ⊢; rw [h]; simp only [bulks, hb]
  rcases bulks k r with _ | _ | ⟨ss, r'⟩ <;> simp
theorem BsAt.out {l0 rest : B} {N : Nat} {acc : List B} (h : BsAt l0 N 0 acc rest) : bulks N l0 = some (some (acc, rest)) := by
  unfold BsAt at h; rw [h]; simp [bulks]
theorem bulk_at {l : B} {p : Nat} {s r : B} (h : bulk (l.drop p) = some (some (s, r))) : r = l.drop (l.length - r.length) := by
  exact suf_drop ((bulk_suf h).trans (List.drop_suffix p l))
theorem bulk_lens {l : B} {s r : B} (h : bulk l = some (some (s, r))) : s.length ≤ 65536 ∧ r.length < l.length := by
  refine ⟨?_, (bulk_whole [] h).2⟩
  unfold bulk at h
  split at h
  · cases h
  · split at h
    · cases h
    · split at h
      · cases h
      · cases h
      · rename_i x r0 hn
        have := number_range hn
        split at h
        · cases h
        · split at h
          · simp only [Option.some.injEq, Prod.mk.injEq] at h
            obtain ⟨rfl, rfl⟩ := h
            rw [List.length_take]; omega
          · cases h
end Go.Proofs.Ytjdnpgdedbegfaa.Rq
namespace Go.Proofs.Ytjdnpgdedbegfaa
open Go.RowKit Go.Shelf
set_option linter.unusedVariables false

theorem bulk_none {g n c : Nat} {a : Addr} {l : List UInt8} {p : Nat} (w : World) (h : Rest w g n c a l p 0) (hm : Mx w) (hn : n ≤ 1048576) (hr : Rq.bulk (l.drop p) = none) :
    Calls Try.prog 41 #[.pointer (some ⟨g, 0, none⟩)] w fun e w' => e = .returned (.tuple #[.string ⟨#[]⟩, .bool false]) ∧ Hid (∃ p, Rest w' g n c a l p 16) ∧ w.grownBy w' (some g) :=
  (bulk_any w h hm hn).mono fun e w' ⟨he, hg⟩ => by rw [hr] at he; exact ⟨he.1, Lib.hid he.2, hg⟩
theorem bulk_part {g n c : Nat} {a : Addr} {l : List UInt8} {p : Nat} (w : World) (h : Rest w g n c a l p 0) (hm : Mx w) (hn : n ≤ 1048576) (hr : Rq.bulk (l.drop p) = some none) :
    Calls Try.prog 41 #[.pointer (some ⟨g, 0, none⟩)] w fun e w' => e = .returned (.tuple #[.string ⟨#[]⟩, .bool false]) ∧ Hid (∃ p, Rest w' g n c a l p 0) ∧ w.grownBy w' (some g) :=
  (bulk_any w h hm hn).mono fun e w' ⟨he, hg⟩ => by rw [hr] at he; exact ⟨he.1, Lib.hid he.2, hg⟩
theorem bulk_some {g n c : Nat} {a : Addr} {l : List UInt8} {p : Nat} (w : World) (h : Rest w g n c a l p 0) (hm : Mx w) (hn : n ≤ 1048576) {s r : List UInt8} (hr : Rq.bulk (l.drop p) = some (some (s, r))) (q : Nat) (hq : n - r.length = q) :
    Calls Try.prog 41 #[.pointer (some ⟨g, 0, none⟩)] w fun e w' => e = .returned (.tuple #[sv s, .bool true]) ∧ Rest w' g n c a l q 0 ∧ w.grownBy w' (some g) :=
  (bulk_any w h hm hn).mono fun e w' ⟨he, hg⟩ => by rw [hr] at he; subst hq; exact ⟨he.1, he.2, hg⟩
theorem Mx.grown {w w' : World} (h : Mx w) {g : Nat} (hg : w.grownBy w' (some g)) (hne : g ≠ Try.laysM185_ren.g 1) : Mx w' := by
  have hlt := h.lt
  obtain ⟨m, hm⟩ := h
  exact ⟨m, (World.cell?_of_block (hg.block _ hlt (fun e => hne (by injection e with e; exact e.symm)))).trans hm⟩
theorem Mx.grown' {w w' : World} (h : Mx w) {row : Option Nat} (hg : w.grownBy w' row) (hne : ∀ g, row = some g → g ≠ Try.laysM185_ren.g 1) : Mx w' := by
  have hlt := h.lt
  obtain ⟨m, hm⟩ := h
  exact ⟨m, (World.cell?_of_block (hg.block _ hlt (fun e => hne _ e.symm rfl))).trans hm⟩
theorem own_far_g {w w' : World} {B g : Nat} {e : TypeId} {size n : Nat} {v : Value} {xs : List Value} (h : Own w B e size v n xs) (hg : w.grownBy w' (some g)) (hB : g < B) : Own w' B e size v n xs := by
  refine h.kept hg ?_
  rcases hv : v.ownBlock with _ | k
  · exact .inl rfl
  · have := (h.lt k hv).1
    exact .inr (by simp; omega)
theorem grown_own {w w1 w2 : World} {row : Option Nat} {v : Value} (h : w.grownBy w1 row) (hg : w1.grownBy w2 v.ownBlock) (hv : ∀ k, v.ownBlock = some k → w.heap.size ≤ k) : w.grownBy w2 row :=
  ⟨hg.os.trans h.os, hg.tape.trans h.tape, hg.output.trans h.output, Nat.le_trans h.size hg.size, fun k hk hne => (hg.block k (Nat.lt_of_lt_of_le hk h.size) (fun e => by have := hv k e.symm; omega)).trans (h.block k hk hne)⟩
theorem grown_alloc {w w1 : World} {row : Option Nat} (h : w.grownBy w1 row) (o : Obj) : w.grownBy (w1.alloc o) row :=
  ⟨h.os, h.tape, h.output, by simp; have := h.size; omega, fun k hk hne => (Below.heap_alloc w1 o k (Nat.lt_of_lt_of_le hk h.size)).trans (h.block k hk hne)⟩
theorem Rest.grown {w w' : World} {g n c : Nat} {a : Addr} {l : List UInt8} {p : Nat} {why : Int} (h : Rest w g n c a l p why) {row : Option Nat} (hg : w.grownBy w' row) (hv : ∀ k, row = some k → g < k) : Rest w' g n c a l p why :=
  ⟨h.1.grown hg (fun e => by have := hv g e.symm; omega), h.2.1.keep (fun q hq => World.cell?_of_block (hg.block _ (Nat.lt_trans hq h.lt) (fun e => by have := hv _ e.symm; omega))), h.2.2⟩
theorem Rest.alloc {w : World} {g n c : Nat} {a : Addr} {l : List UInt8} {p : Nat} {why : Int} (h : Rest w g n c a l p why) (o : Obj) : Rest (w.alloc o) g n c a l p why :=
  ⟨h.1.alloc o, h.2.1.alloc (Nat.le_of_lt h.lt) o, h.2.2⟩

/-- What array and inline give. -/
def ARet (B : Nat) (w' : World) (e : Ending) (g n c : Nat) (a : Addr) (l : List UInt8) : Rq.Res (List (List UInt8)) → Prop
  | none => (∃ v, e = .returned (.tuple #[v, .bool false])) ∧ ∃ p, Rest w' g n c a l p 16
  | some none => (∃ v, e = .returned (.tuple #[v, .bool false])) ∧ ∃ p, Rest w' g n c a l p 0
  | some (some (ss, r)) => (∃ v, e = .returned (.tuple #[v, .bool true]) ∧ Own w' B 9 1 v ss.length (ss.map sv)) ∧ Rest w' g n c a l (n - r.length) 0

/-- Along array's loop. -/
def ALoop (B : Nat) (g n c : Nat) (a : Addr) (l : List UInt8) (res : Rq.Res (List (List UInt8))) (l0 : List UInt8) (N : Nat) (z : Int) (wr : World) (v : Value) : Bool → Prop
  | true => ∃ acc q, Own wr B 9 1 v acc.length (acc.map sv) ∧ acc.length + z.toNat ≤ 256 ∧ Rest wr g n c a l q 0 ∧ Rq.BsAt l0 N z.toNat acc (l.drop q)
  | false => (res = none ∧ ∃ q, Rest wr g n c a l q 16) ∨ (res = some none ∧ ∃ q, Rest wr g n c a l q 0)

set_option maxRecDepth 10000 in
set_option maxHeartbeats 8000000 in
theorem array_any {g n c : Nat} {a : Addr} {l : List UInt8} {p : Nat} (w : World) (h : Rest w g n c a l p 0) (hp : p < n) (hm : Mx w) (hn : n ≤ 1048576) :
    Calls Try.prog 29 #[.pointer (some ⟨g, 0, none⟩)] w fun e w' => ARet w.heap.size w' e g n c a l (Rq.arr (l.drop (p + 1))) ∧ w.grownBy w' (some g) := by
  obtain ⟨i0, hi, hz0, hz1, hz2⟩ := info_parts strinfo
  have hnl : n = l.length := h.2.2.1
  have hg := h.lt
  have hmx := h.mx hm
  have c1 := h.1.cell 1
  have f1 := h.1.frozen 1
  have c0 := h.1.cell 0
  have hgs := grown_set (Below.refl w.heap.size w) g 1 (.int .i64 ((p : Int) + 1))
  rcases hnum : Rq.number (-1) 256 (l.drop (p + 1)) with _ | _ | ⟨x, r⟩
  · have HN := Lib.hid (show Rq.arr (l.drop (p + 1)) = none by simp [Rq.arr, hnum])
    clear hnl
    go_enter Try.func29, Try.ntmps29
    go_wp2_with fail
    refine (number_none _ (h.step1 (by omega)) (hm.set_ hmx _ _) hn hnum).mono ?_
    rintro e w3 ⟨rfl, h3, hg3⟩
    go_wp2_with fail
    go_loopw [4, 5, 6] (fun x ok v wr => x = .int .i64 0 ∧ ok = .bool false ∧ v = .slice none 0 0 ∧ wr = w3) (fun _ _ _ _ => 0)
    case atStart => exact ⟨rfl, rfl, rfl, rfl⟩
    case round =>
      obtain ⟨rfl, rfl, rfl, rfl⟩ := hrel
      go_wp2_with fail
      go_ret2
      rw [HN.out]
      exact ⟨⟨⟨_, rfl⟩, _, h3⟩, grown_trans hgs hg3⟩
  · have HN := Lib.hid (show Rq.arr (l.drop (p + 1)) = some none by simp [Rq.arr, hnum])
    clear hnl
    go_enter Try.func29, Try.ntmps29
    go_wp2_with fail
    refine (number_part _ (h.step1 (by omega)) (hm.set_ hmx _ _) hn hnum).mono ?_
    rintro e w3 ⟨rfl, h3, hg3⟩
    go_wp2_with fail
    go_loopw [4, 5, 6] (fun x ok v wr => x = .int .i64 0 ∧ ok = .bool false ∧ v = .slice none 0 0 ∧ wr = w3) (fun _ _ _ _ => 0)
    case atStart => exact ⟨rfl, rfl, rfl, rfl⟩
    case round =>
      obtain ⟨rfl, rfl, rfl, rfl⟩ := hrel
      go_wp2_with fail
      go_ret2
      rw [HN.out]
      exact ⟨⟨⟨_, rfl⟩, _, h3⟩, grown_trans hgs hg3⟩
  · obtain ⟨hx0, hx1⟩ := Rq.number_range hnum
    have hra := Rq.number_at hnum
    have hrl := (Rq.number_whole [] hnum).2
    rw [List.length_drop] at hrl
    obtain ⟨q0, hq0⟩ : ∃ q, l.length - r.length = q := ⟨_, rfl⟩
    rw [hq0] at hra
    have hqn : n - r.length = q0 := by omega
    have HR := Lib.hid (show Rq.arr (l.drop (p + 1)) = Rq.bulks x.toNat r by simp [Rq.arr, hnum])
    have HS := Lib.hid (show Rq.BsAt r x.toNat x.toNat [] (l.drop q0) by rw [← hra]; exact Rq.BsAt.start _ _)
    have HQ := Lib.hid hqn
    have HNL := Lib.hid hnl
    obtain ⟨B, hB⟩ : ∃ B, w.heap.size = B := ⟨_, rfl⟩
    have HB := Lib.hid hB
    have hgB : g < B := by omega
    clear hnl hra hq0 hrl hqn
    rw [hB]
    clear hB
    go_enter Try.func29, Try.ntmps29
    go_wp2_with fail
    refine (number_some _ (h.step1 (by omega)) (hm.set_ hmx _ _) hn hnum q0 HQ.out).mono ?_
    rintro e w3 ⟨rfl, h3, hg3⟩
    clear hnum c0 c1 f1
    go_wp2_with fail
    go_loopw [4, 5, 6] (fun x' ok v wr => ∃ z b, x' = .int .i64 z ∧ -1 ≤ z ∧ z ≤ 256 ∧ ok = .bool b ∧ Hid (ALoop B g n c a l (Rq.arr (l.drop (p + 1))) r x.toNat z wr v b) ∧ w.grownBy wr (some g))
      (fun x' _ _ _ => (intOf x').toNat)
    case atStart => exact ⟨x, true, rfl, hx0, hx1, rfl, Lib.hid ⟨[], q0, Own.nil _ _ _ _, by simp; omega, h3, HS.out⟩, grown_trans hgs hg3⟩
    case round =>
      obtain ⟨z, b, rfl, hzl, hzu, rfl, HL, hgr⟩ := hrel
      rcases b with _ | _
      · go_wp2_with fail
        go_ret2
        rcases HL.out with ⟨h1, q, h2⟩ | ⟨h1, q, h2⟩
        · rw [h1]; exact ⟨⟨⟨_, rfl⟩, q, h2⟩, hgr⟩
        · rw [h1]; exact ⟨⟨⟨_, rfl⟩, q, h2⟩, hgr⟩
      · obtain ⟨acc, q, hob, hac, hrest, hbs⟩ := HL.out
        by_cases hz : 0 < z
        · obtain ⟨k, rfl⟩ : ∃ k : Nat, z = (k : Int) + 1 := ⟨(z - 1).toNat, by omega⟩
          have hk1 : ((k : Int) + 1).toNat = k + 1 := by omega
          rw [hk1] at hac hbs
          clear hk1
          have hmr := hm.grown hgr hmx
          obtain ⟨A, cc, rfl⟩ := hob.sliceForm
          have hbb : B ≤ wr.heap.size := by have := hgr.size; have := HB.out; omega
          rcases hbk : Rq.bulk (l.drop q) with _ | _ | ⟨s, r1⟩
          · have HX := Lib.hid (HR.out.trans (hbs.bad hbk))
            clear hbs HL
            go_wp2_with fail
            refine (bulk_none _ hrest hmr hn hbk).mono ?_
            rintro e w2 ⟨rfl, hP, hg2⟩
            have hob2 := own_far_g hob hg2 hgB
            have hb2 : B ≤ w2.heap.size := Nat.le_trans hbb hg2.size
            go_wp2_with (first
              | (at_builtin; refine wpList_append_Own _ rfl (.tmp 32) (.tmp 34) _ _ rfl B 9 i0 _ 1 16 Try.underlying33 hi hz0 hz1 hz2 rfl (.slice A acc.length cc) acc.length (acc.map sv) rfl (hob2.alloc _) _ 1 [.string ⟨#[]⟩] rfl (Src.own (Own.lit (base := B) w2 #[.string ⟨#[]⟩] 1 hb2 (by decide) rfl) Try.underlying33 (by intro v hv; simp at hv; subst hv; rfl) (by decide)) (by unfold maxLen; omega) (by omega) (by simp; omega) ?_; intro v1 w1 hO hgr1 hat))
            have hfar : ∀ k, (Value.slice A acc.length cc).ownBlock = some k → B ≤ k := fun k hk => (hob2.lt k hk).1
            have HF : Hid (ALoop B g n c a l (Rq.arr (l.drop (p + 1))) r x.toNat k w1 v1 false) := by
              obtain ⟨q9, hq9⟩ := hP.out
              exact Lib.hid (.inl ⟨HX.out, q9, (hq9.alloc _).grown hgr1 (fun k hk => by have := hfar k hk; omega)⟩)
            have hG : w.grownBy w1 (some g) := grown_own (grown_alloc (grown_trans hgr hg2) _) hgr1 (fun k hk => by have := hfar k hk; have := HB.out; omega)
            go_roundw
            case rel =>
              first
                | exact ⟨(k : Int), false, by go_num, by omega, by omega, rfl, HF, hG⟩
                | ((repeat apply Exists.intro); exact ⟨⟨(k : Int), false, by go_num, by omega, by omega, rfl, HF, hG⟩, rfl⟩)
            case measure => (simp [intOf]) <;> omega
          · have HX := Lib.hid (HR.out.trans (hbs.part hbk))
            clear hbs HL
            go_wp2_with fail
            refine (bulk_part _ hrest hmr hn hbk).mono ?_
            rintro e w2 ⟨rfl, hP, hg2⟩
            have hob2 := own_far_g hob hg2 hgB
            have hb2 : B ≤ w2.heap.size := Nat.le_trans hbb hg2.size
            go_wp2_with (first
              | (at_builtin; refine wpList_append_Own _ rfl (.tmp 32) (.tmp 34) _ _ rfl B 9 i0 _ 1 16 Try.underlying33 hi hz0 hz1 hz2 rfl (.slice A acc.length cc) acc.length (acc.map sv) rfl (hob2.alloc _) _ 1 [.string ⟨#[]⟩] rfl (Src.own (Own.lit (base := B) w2 #[.string ⟨#[]⟩] 1 hb2 (by decide) rfl) Try.underlying33 (by intro v hv; simp at hv; subst hv; rfl) (by decide)) (by unfold maxLen; omega) (by omega) (by simp; omega) ?_; intro v1 w1 hO hgr1 hat))
            have hfar : ∀ k, (Value.slice A acc.length cc).ownBlock = some k → B ≤ k := fun k hk => (hob2.lt k hk).1
            have HF : Hid (ALoop B g n c a l (Rq.arr (l.drop (p + 1))) r x.toNat k w1 v1 false) := by
              obtain ⟨q9, hq9⟩ := hP.out
              exact Lib.hid (.inr ⟨HX.out, q9, (hq9.alloc _).grown hgr1 (fun k hk => by have := hfar k hk; omega)⟩)
            have hG : w.grownBy w1 (some g) := grown_own (grown_alloc (grown_trans hgr hg2) _) hgr1 (fun k hk => by have := hfar k hk; have := HB.out; omega)
            go_roundw
            case rel =>
              first
                | exact ⟨(k : Int), false, by go_num, by omega, by omega, rfl, HF, hG⟩
                | ((repeat apply Exists.intro); exact ⟨⟨(k : Int), false, by go_num, by omega, by omega, rfl, HF, hG⟩, rfl⟩)
            case measure => (simp [intOf]) <;> omega
          · have hs := Rq.bulk_lens hbk
            have hra1 := Rq.bulk_at hbk
            obtain ⟨q1, hq1⟩ : ∃ q1, n - r1.length = q1 := ⟨_, rfl⟩
            have HQ1 := Lib.hid hq1
            have HX := Lib.hid (show Rq.BsAt r x.toNat k (acc ++ [s]) (l.drop q1) by
              have := hbs.next hbk
              rw [hra1, ← HNL.out, hq1] at this
              exact this)
            clear hbs HL hra1 hq1
            go_wp2_with fail
            refine (bulk_some _ hrest hmr hn hbk q1 HQ1.out).mono ?_
            rintro e w2 ⟨rfl, hr2, hg2⟩
            have hob2 := own_far_g hob hg2 hgB
            have hb2 : B ≤ w2.heap.size := Nat.le_trans hbb hg2.size
            go_wp2_with (first
              | (at_builtin; refine wpList_append_Own _ rfl (.tmp 32) (.tmp 34) _ _ rfl B 9 i0 _ 1 16 Try.underlying33 hi hz0 hz1 hz2 rfl (.slice A acc.length cc) acc.length (acc.map sv) rfl (hob2.alloc _) _ 1 [sv s] rfl (Src.own (Own.lit (base := B) w2 #[sv s] 1 hb2 (by decide) rfl) Try.underlying33 (by intro v hv; simp at hv; subst hv; rfl) (by decide)) (by unfold maxLen; omega) (by omega) (by simp; omega) ?_; intro v1 w1 hO hgr1 hat))
            have hfar : ∀ k, (Value.slice A acc.length cc).ownBlock = some k → B ≤ k := fun k hk => (hob2.lt k hk).1
            have HF : Hid (ALoop B g n c a l (Rq.arr (l.drop (p + 1))) r x.toNat k w1 v1 true) := by
              refine Lib.hid ⟨acc ++ [s], q1, ?_, ?_, (hr2.alloc _).grown hgr1 (fun k hk => by have := hfar k hk; omega), ?_⟩
              · rw [List.map_append, List.length_append]; exact hO
              · rw [List.length_append, List.length_singleton]; omega
              · rw [show ((k : Int)).toNat = k from by omega]; exact HX.out
            have hG : w.grownBy w1 (some g) := grown_own (grown_alloc (grown_trans hgr hg2) _) hgr1 (fun k hk => by have := hfar k hk; have := HB.out; omega)
            go_roundw
            case rel =>
              first
                | exact ⟨(k : Int), true, by go_num, by omega, by omega, rfl, HF, hG⟩
                | ((repeat apply Exists.intro); exact ⟨⟨(k : Int), true, by go_num, by omega, by omega, rfl, HF, hG⟩, rfl⟩)
            case measure => (simp [intOf]) <;> omega
        · have hz' : z ≤ 0 := by omega
          have HX := Lib.hid (show Rq.arr (l.drop (p + 1)) = some (some (acc, l.drop q)) by
            rw [HR.out]
            rw [show z.toNat = 0 from by omega] at hbs
            exact hbs.out)
          have HQ9 := Lib.hid (show n - (l.drop q).length = q by rw [List.length_drop, ← HNL.out]; have := hrest.2.2.2.2.2; omega)
          clear hbs HL
          go_wp2_with fail
          go_ret2
          rw [HX.out]
          refine ⟨⟨⟨_, rfl, hob⟩, ?_⟩, hgr⟩
          rw [HQ9.out]
          exact hrest
end Go.Proofs.Ytjdnpgdedbegfaa
