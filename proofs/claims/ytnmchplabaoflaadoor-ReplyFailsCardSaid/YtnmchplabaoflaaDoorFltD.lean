/- fault.Cmd, Depth, (*Fault).Unwrap; errors.Unwrap, errors.Is over chains of Faults. -/
import Derived.Test.YtnmchplabaoflaaDoorFltC
namespace Go.Proofs.YtnmchplabaoflaaDoor
open Go.RowKit Go.Extern.Stop Go.Stop Go.Extern
set_option linter.unusedVariables false

set_option maxRecDepth 100000 in
theorem unwrap_none (w : World) : Calls Tryd.prog 25 #[.pointer none] w fun e w' => e = .returned .nilIface ∧ w = w' := by
  go_enter Tryd.func25, Tryd.ntmps25
  go_wp2
  go_ret
  exact ⟨rfl, rfl⟩
set_option maxRecDepth 100000 in
theorem error_none (w : World) : Calls Tryd.prog 24 #[.pointer none] w fun e w' => e = .returned (.string ⟨#[]⟩) ∧ w = w' := by
  go_enter Tryd.func24, Tryd.ntmps24
  go_wp2
  go_ret
  exact ⟨rfl, rfl⟩
set_option maxRecDepth 100000 in
theorem unwrap_any (g : Nat) (E : Value) (w : World) (hc : w.cell? ⟨g, 1, none⟩ = some E) (hE : ∃ u v, E = .iface u v) :
    Calls Tryd.prog 25 #[.pointer (some ⟨g, 0, none⟩)] w fun e w' => e = .returned E ∧ w = w' := by
  obtain ⟨u, v, rfl⟩ := hE
  go_enter Tryd.func25, Tryd.ntmps25
  go_wp2
  go_ret
  exact ⟨rfl, rfl⟩
theorem chLen_cd {W : World} {c : Int} {l : List (Nat × List UInt8)} (h : Chn W (cd c) l) : chLen W (cd c) (ev (cd c) l) = l.length := chLen_eq (noF_code c) h
theorem chn_cell {W : World} {E0 : Value} {g : Nat} {s : List UInt8} {r : List (Nat × List UInt8)} (h : Chn W E0 ((g, s) :: r)) : W.cell? ⟨g, 1, none⟩ = some (ev E0 r) := (h.1.cell 1).trans rfl
theorem chn_name {W : World} {E0 : Value} {g : Nat} {s : List UInt8} {r : List (Nat × List UInt8)} (h : Chn W E0 ((g, s) :: r)) : W.cell? ⟨g, 0, none⟩ = some (sv s) := (h.1.cell 0).trans rfl

set_option maxRecDepth 100000 in
theorem eunwrap_any {E0 : Value} (hE : ∃ u v, E0 = .iface u v) (g : Nat) (s : List UInt8) (r : List (Nat × List UInt8)) (w : World) (hch : Chn w E0 ((g, s) :: r)) :
    Calls Tryd.prog 23 #[ev E0 ((g, s) :: r)] w fun e w' => e = .returned (ev E0 r) ∧ w = w' := by
  have HC := Lib.hid (unwrap_any g (ev E0 r) w (chn_cell hch) (ev_iface hE r))
  have uF := hasUnwrap_f
  have mU := methodUnwrap
  have hu := ev_iface hE r
  generalize ev E0 r = E at HC hu ⊢
  obtain ⟨u, v, rfl⟩ := hu
  clear hch hE
  dsimp only [ev]
  go_enter Tryd.func23, Tryd.ntmps23
  go_wp2_with (go_at_call 25; refine HC.out.mono ?_; rintro e w1 ⟨rfl, rfl⟩)
  go_ret
  exact ⟨rfl, rfl⟩

set_option maxRecDepth 100000 in
theorem cmd_nil (w : World) : Calls Tryd.prog 20 #[.nilIface] w fun e w' => e = .returned (.string ⟨#[]⟩) ∧ Below w.heap.size w w' := by
  have HC := Lib.hid (fun t w1 => as_nil t w1)
  go_enter Tryd.func20, Tryd.ntmps20
  go_wp2_with (go_at_call 26; refine (HC.out _ _).mono ?_; rintro e w1 ⟨rfl, rfl⟩)
  go_ret
  exact ⟨rfl, (Below.refl _ _).alloc (Nat.le_refl _) _⟩

set_option maxRecDepth 100000 in
theorem cmd_any {E0 : Value} (g : Nat) (s : List UInt8) (r : List (Nat × List UInt8)) (w : World) (hch : Chn w E0 ((g, s) :: r)) (hg : Et w) :
    Calls Tryd.prog 20 #[ev E0 ((g, s) :: r)] w fun e w' => e = .returned (sv s) ∧ Below w.heap.size w w' := by
  have b1 : ∀ o, Below w.heap.size w (w.alloc o) := fun o => (Below.refl _ w).alloc (Nat.le_refl _) o
  have HC := Lib.hid (as_fault' ⟨g, 0, none⟩ ⟨w.heap.size, 0, none⟩ (.pointer none) (w.alloc (.cells #[.pointer none] 42)) (hg.below_ (b1 _)) (by simp) (by simp))
  have B1 := Lib.hid (b1 (.cells #[.pointer none] 42))
  have CH := Lib.hid hch
  clear hch hg b1
  dsimp only [ev]
  go_enter Tryd.func20, Tryd.ntmps20
  go_wp2_with (go_at_call 26; refine HC.out.mono ?_; rintro e w1 ⟨rfl, h1, h2, h3⟩; have H3 := Lib.hid (h3 w.heap.size (by simp) (by simp)); clear h3; have HN := chn_name (CH.out.below (B1.out.trans H3.out)))
  go_ret
  exact ⟨rfl, B1.out.trans H3.out⟩

set_option maxRecDepth 100000 in
theorem depth_nil (w : World) : Calls Tryd.prog 17 #[.nilIface] w fun e w' => e = .returned (.int .i64 0) ∧ Below w.heap.size w w' := by
  have HC := Lib.hid (fun t w1 => as_nil t w1)
  go_enter Tryd.func17, Tryd.ntmps17
  go_wp2
  refine wp_loop_rounds 1 ?_
  rw [rounds_succ]
  go_wp2_with (go_at_call 26; refine (HC.out _ _).mono ?_; rintro e w1 ⟨rfl, rfl⟩)
  go_ret
  exact ⟨rfl, (Below.refl _ _).alloc (Nat.le_refl _) _⟩

set_option maxHeartbeats 1000000 in
set_option maxRecDepth 100000 in
theorem depth_any (c : Int) (l : List (Nat × List UInt8)) (w : World) (hch : Chn w (cd c) l) (hg : Et w) (hl : l.length ≤ 1000) :
    Calls Tryd.prog 17 #[ev (cd c) l] w fun e w' => e = .returned (.int .i64 l.length) ∧ Below w.heap.size w w' := by
  obtain ⟨i, hi, hcmp⟩ := Option.map_eq_some_iff.1 fComp
  obtain ⟨j, hj, hjs⟩ := Option.map_eq_some_iff.1 fSize
  have b1 : ∀ o, Below w.heap.size w (w.alloc o) := fun o => (Below.refl _ w).alloc (Nat.le_refl _) o
  have HN := Lib.hid (fun c t w1 hg => as_fault_none' c t w1 hg)
  have HF := Lib.hid (fun e t old w1 hg ht hf => as_fault' e t old w1 hg ht hf)
  have HU := Lib.hid (fun g E w1 hc hE => unwrap_any g E w1 hc hE)
  have B1 := Lib.hid (b1 (.cells #[.pointer none] 42))
  have CH := Lib.hid hch
  have HG := Lib.hid hg
  obtain ⟨u, v, hu⟩ := ev_iface ⟨_, _, rfl⟩ l (E0 := cd c)
  have HE := Lib.hid hu
  rw [hu]
  clear hu hch hg b1
  go_enter Tryd.func17, Tryd.ntmps17
  go_wp2
  go_loopw [0, 3] (fun E N wl => Below w.heap.size w wl ∧ (∃ old, wl.cell? ⟨w.heap.size, 0, none⟩ = some old ∧ wl.frozen? ⟨w.heap.size, 0, none⟩ = false) ∧ ∃ l', Chn w (cd c) l' ∧ E = ev (cd c) l' ∧ N = .int .i64 ((l.length : Int) - l'.length) ∧ l'.length ≤ l.length) (fun E N wl => chLen w (cd c) E)
  case atStart => exact ⟨B1.out, ⟨.pointer none, by simp, by simp⟩, l, CH.out, HE.out.symm, by simp, Nat.le_refl _⟩
  case round =>
    obtain ⟨hb, ⟨old, ho1, ho2⟩, l', hc', rfl, rfl, hle⟩ := hrel
    cases l' with
    | nil =>
      have HR := Lib.hid (HN.out c ⟨w.heap.size, 0, none⟩ wr (HG.out.below_ hb))
      have HB := Lib.hid hb
      clear hb ho1 ho2 hc'
      simp only [List.length_nil, Int.ofNat_zero, Int.sub_zero]
      go_wp2_with (go_at_call 26; refine HR.out.mono ?_; rintro e w1 ⟨rfl, h1⟩; have H1 := Lib.hid h1; clear h1)
      go_ret
      exact ⟨rfl, HB.out.trans (H1.out.mono HB.out.size)⟩
    | cons p r =>
      obtain ⟨g, s⟩ := p
      have HR := Lib.hid (HF.out ⟨g, 0, none⟩ ⟨w.heap.size, 0, none⟩ old wr (HG.out.below_ hb) ho1 ho2)
      have HB := Lib.hid hb
      have HC := Lib.hid hc'
      have HM := Lib.hid (chLen_cd hc')
      have HM2 := Lib.hid (chLen_cd hc'.2)
      clear hb ho1 ho2 hc'
      simp only [List.length_cons] at hle
      dsimp only [ev]
      go_wp2_with (first
        | (go_at_call 26; refine HR.out.mono ?_; rintro e w1 ⟨rfl, h1, h2, h3⟩; have H3 := Lib.hid (h3 w.heap.size (by simp) HB.out.size); clear h3; have heq := run_eql_iface_ptr_same (P := Tryd.prog) w1 ⟨g, 0, none⟩ Tryd.underlying30 Tryd.underlying42 hi hcmp hj)
        | (go_at_call 25; refine (HU.out g (ev (cd c) r) _ (chn_cell (HC.out.below (HB.out.trans H3.out))) (ev_iface ⟨_, _, rfl⟩ r)).mono ?_; rintro e w2 ⟨rfl, rfl⟩))
      go_roundw
      case rel => exact ⟨HB.out.trans H3.out, ⟨_, h1, h2⟩, r, HC.out.2, rfl, by congr 1; omega, by omega⟩
      case measure =>
        show chLen w (cd c) (ev (cd c) r) < chLen w (cd c) (ev (cd c) ((g, s) :: r))
        rw [HM.out, HM2.out]
        simp

/-! ### errors.Is -/
theorem eql_code (c d : Int) (w : World) : (binOp .eql 30 (cd c) (cd d)).run Tryd.prog w = .ok (.bool (c == d)) w := by
  obtain ⟨i, hi, hcmp⟩ := Option.map_eq_some_iff.1 (show (Tryd.prog.info? 22).map (·.comparable) = some true by kernel_rfl)
  have h : ∀ k : Nat, (Op.equalIn (k + 2) 30 (cd c) (cd d)).run Tryd.prog w = .ok (c == d) w := fun k => by simp [cd, Op.equalIn, run_underlying Tryd.underlying30, run_underlying Tryd.underlying22, typeInfo, hi, hcmp]
  dsimp only [cd] at h ⊢
  simp only [binOp]
  simp [Op.equal, Op.maxDepth, h 9998]
theorem cComparable2 (w : World) : ((ReflectliteType.method fun t => do Rtype.noPackHeld "Comparable" t; (fun a => Value.bool a.comparable) <$> typeInfo t) #[.agg #[.pointer (some ⟨4, 22, none⟩)]]).run Tryd.prog w = .ok (.bool true) w := by kernel_rfl
set_option maxHeartbeats 4000000 in
set_option maxRecDepth 100000 in
/-- errors.Is of a chain over a Code, the target a Code: they are the same Code. -/
theorem is_any (c d : Int) (l : List (Nat × List UInt8)) (w : World) (hch : Chn w (cd c) l) :
    Calls Tryd.prog 22 #[ev (cd c) l, cd d] w fun e w' => e = .returned (.bool (c == d)) ∧ w' = w := by
  have h10 := @run_callFunc_extern Tryd.prog 36 _ ReflectliteType.typeOf Tryd.func36 (by kernel_rfl) (by kernel_rfl) (by kernel_rfl) (by kernel_rfl)
  have hcm := @run_callFunc_extern Tryd.prog 123 _ (ReflectliteType.method fun t => do Rtype.noPackHeld "Comparable" t; pure (.bool (← typeInfo t).comparable)) Tryd.func123 (by kernel_rfl) (by kernel_rfl) (by kernel_rfl) (by kernel_rfl)
  have tOc := etype_c
  have mC := methodComparable
  have cC := cComparable2
  have nIf := noIs_f
  have nIc := noIs_c
  have uF := hasUnwrap_f
  have uC := noUnwrap_c
  have vC := noUnwraps_c
  have mU := methodUnwrap
  have HU := Lib.hid (fun g E w1 hc hE => unwrap_any g E w1 hc hE)
  have CH := Lib.hid hch
  have hu := ev_iface ⟨_, _, rfl⟩ l (E0 := cd c)
  obtain ⟨E, hE⟩ : ∃ E, ev (cd c) l = E := ⟨_, rfl⟩
  have HE := Lib.hid hE
  rw [hE] at hu ⊢
  obtain ⟨u, v, rfl⟩ := hu
  clear hE hch
  dsimp only [cd]
  go_enter Tryd.func22, Tryd.ntmps22
  go_wp2
  go_loopw [0] (fun E wl => wl = w ∧ ∃ l', Chn w (cd c) l' ∧ E = ev (cd c) l') (fun E wl => chLen w (cd c) E)
  case atStart => exact ⟨rfl, l, CH.out, HE.out.symm⟩
  case round =>
    obtain ⟨rfl, l', hc', rfl⟩ := hrel
    cases l' with
    | nil =>
      clear hc'
      dsimp only [ev, cd]
      have heq := eql_code c d wr
      dsimp only [cd] at heq
      by_cases hcd : (c == d) = true
      · rw [hcd] at heq
        go_wp2
        go_ret
        exact ⟨show Ending.returned (.bool true) = .returned (.bool (c == d)) by rw [hcd], rfl⟩
      · have hne : (c == d) = false := by simpa using hcd
        rw [hne] at heq
        go_wp2
        go_ret
        exact ⟨show Ending.returned (.bool false) = .returned (.bool (c == d)) by rw [hne], rfl⟩
    | cons p r =>
      obtain ⟨g, s⟩ := p
      have HC := Lib.hid hc'
      have HM := Lib.hid (chLen_cd hc')
      have HM2 := Lib.hid (chLen_cd hc'.2)
      have heq := run_eql_iface_types (P := Tryd.prog) 42 22 (.pointer (some ⟨g, 0, none⟩)) (.int .i64 d) Tryd.underlying30 (by decide) wr
      clear hc'
      dsimp only [ev, cd]
      have hu2 := ev_iface ⟨_, _, rfl⟩ r (E0 := cd c)
      go_wp2_with (go_at_call 25; refine (HU.out g (ev (cd c) r) _ (chn_cell HC.out) hu2).mono ?_; rintro e w2 ⟨rfl, rfl⟩; generalize hE3 : ev (cd c) r = E3; rw [hE3] at hu2; obtain ⟨u3, v3, rfl⟩ := hu2; have HE3 := Lib.hid hE3; clear hE3)
      go_roundw
      case rel => exact ⟨trivial, r, HC.out.2, HE3.out.symm⟩
      case measure =>
        show chLen wr (cd c) (.iface u3 v3) < chLen wr (cd c) (ev (cd c) ((g, s) :: r))
        rw [← HE3.out, HM.out, HM2.out]
        simp
end Go.Proofs.YtnmchplabaoflaaDoor
