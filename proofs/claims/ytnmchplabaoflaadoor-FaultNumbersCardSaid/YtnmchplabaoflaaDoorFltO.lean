/- Errors of errors.New's make, and chains of Faults over them: errors.As by contracts; fault.Code, Cmd, Depth. -/
import Derived.Test.YtnmchplabaoflaaDoorFltD
namespace Go.Proofs.YtnmchplabaoflaaDoor
open Go.RowKit Go.Extern.Stop Go.Stop Go.Extern
set_option linter.unusedVariables false
set_option maxRecDepth 100000

theorem etype_o (v : Value) (w : World) : (ReflectliteType.typeOf #[.iface 63 v]).run Tryd.prog w = .ok (.iface 97 (.agg #[.pointer (some ⟨4, 63, none⟩)])) w := by kernel_rfl
theorem assign_of (w : World) : (ReflectliteType.relation "AssignableTo" ReflectliteType.assignableTo #[.agg #[.pointer (some ⟨4, 63, none⟩)], .iface 97 (.agg #[.pointer (some ⟨4, 42, none⟩)])]).run Tryd.prog w = .ok (.bool false) w := by kernel_rfl
theorem assign_oc (w : World) : (ReflectliteType.relation "AssignableTo" ReflectliteType.assignableTo #[.agg #[.pointer (some ⟨4, 63, none⟩)], .iface 97 (.agg #[.pointer (some ⟨4, 22, none⟩)])]).run Tryd.prog w = .ok (.bool false) w := by kernel_rfl
theorem noAs_o (v : Value) (xT : TypeId) (w : World) : (Instr.typeAssert (.iface 63 v) xT 107 true).run Tryd.prog w = .ok (.tuple #[.nilIface, .bool false]) w := run_typeAssert_lacksB Tryd.underlying107 (by kernel_rfl) (by kernel_rfl) v xT w
theorem noUnwrap_o (v : Value) (xT : TypeId) (w : World) : (Instr.typeAssert (.iface 63 v) xT 70 true).run Tryd.prog w = .ok (.tuple #[.nilIface, .bool false]) w := run_typeAssert_lacksB Tryd.underlying70 (by kernel_rfl) (by kernel_rfl) v xT w
theorem noUnwraps_o (v : Value) (xT : TypeId) (w : World) : (Instr.typeAssert (.iface 63 v) xT 102 true).run Tryd.prog w = .ok (.tuple #[.nilIface, .bool false]) w := run_typeAssert_lacksB Tryd.underlying102 (by kernel_rfl) (by kernel_rfl) v xT w
/-- An error of errors.New's make. -/
def ot (p : Option Addr) : Value := .iface 63 (.pointer p)
theorem noF_ot (p : Option Addr) : NoF (ot p) := by intro q h; cases h


set_option maxHeartbeats 4000000 in
theorem as_fault_ot (p : Option Addr) (t : Addr) (w : World) (hg : w.cell? ⟨0, 0, none⟩ = some (.iface 97 (.agg #[.pointer (some ⟨4, 30, none⟩)]))) :
    Calls Tryd.prog 26 #[ot p, .iface 47 (.pointer (some t))] w fun ev w' => ev = .returned (.bool false) ∧ w' = (((w.alloc (.cells #[.pointer (some t)] 47)).alloc (.cells #[.pointer (some ⟨4, 47, none⟩), .pointer (some ⟨w.heap.size, 0, none⟩), .int .u64 150] 75)).alloc (.cells #[.pointer (some ⟨4, 47, none⟩), .pointer (some ⟨w.heap.size, 0, none⟩), .int .u64 150] 75)) := by
  have h6 := @run_callFunc_extern Tryd.prog 38 _ (fun args => ReflectliteValue.unpack (args.getD 0 (.tuple #[]))) Tryd.func38 (by kernel_rfl) (by kernel_rfl) (by kernel_rfl) (by kernel_rfl)
  have h7 := @run_callFunc_extern Tryd.prog 39 _ (ReflectliteValue.methodAny (ReflectliteValue.valueError "reflectlite.Value.Type" 0) (fun t _ _ _ => ReflectliteType.toType t)) Tryd.func39 (by kernel_rfl) (by kernel_rfl) (by kernel_rfl) (by kernel_rfl)
  have h8 := @run_callFunc_extern Tryd.prog 40 _ (ReflectliteValue.method (ReflectliteValue.valueError "reflectlite.Value.IsNil" 0) ReflectliteValue.isNil) Tryd.func40 (by kernel_rfl) (by kernel_rfl) (by kernel_rfl) (by kernel_rfl)
  have h27 := @run_callFunc_extern Tryd.prog 112 _ (ReflectliteType.abiMethod fun t => do pure (.int .u8 (← Rtype.kind t))) Tryd.func112 (by kernel_rfl) (by kernel_rfl) (by kernel_rfl) (by kernel_rfl)
  have h37 := @run_callFunc_extern Tryd.prog 124 _ (ReflectliteType.method ReflectliteType.elem) Tryd.func124 (by kernel_rfl) (by kernel_rfl) (by kernel_rfl) (by kernel_rfl)
  have h38 := @run_callFunc_extern Tryd.prog 125 _ (ReflectliteType.relation "Implements" ReflectliteType.implements_) Tryd.func125 (by kernel_rfl) (by kernel_rfl) (by kernel_rfl) (by kernel_rfl)
  have h10 := @run_callFunc_extern Tryd.prog 36 _ ReflectliteType.typeOf Tryd.func36 (by kernel_rfl) (by kernel_rfl) (by kernel_rfl) (by kernel_rfl)
  have h35 := @run_callFunc_extern Tryd.prog 122 _ (ReflectliteType.relation "AssignableTo" ReflectliteType.assignableTo) Tryd.func122 (by kernel_rfl) (by kernel_rfl) (by kernel_rfl) (by kernel_rfl)
  have h11 := @run_callFunc_extern Tryd.prog 54 _ (ReflectliteValue.method (ReflectliteValue.valueError "reflectlite.Value.Elem" 0) ReflectliteValue.elem) Tryd.func54 (by kernel_rfl) (by kernel_rfl) (by kernel_rfl) (by kernel_rfl)
  have h12 := @run_callFunc_extern Tryd.prog 55 _ ReflectliteValue.set Tryd.func55 (by kernel_rfl) (by kernel_rfl) (by kernel_rfl) (by kernel_rfl)
  have mK := methodKind
  have mE := methodElem
  have mI := methodImplements
  have mA := methodAssignableTo
  have f6 := pval_f
  have f7 := ptype_f
  have k27 := pkind_f
  have k25 := ekind_f
  have e27 := pelem_f
  have i25 := eimpl_f
  have n8 := pisnil_f ⟨w.heap.size, 0, none⟩ t ((w.alloc (.cells #[.pointer (some t)] 47)).alloc (.cells #[.pointer (some ⟨4, 47, none⟩), .pointer (some ⟨w.heap.size, 0, none⟩), .int .u64 150] 75)) (by simp)
  have hlt : 0 < w.heap.size := by
    rcases Nat.eq_zero_or_pos w.heap.size with h0 | h
    · simp [World.cell?, h0] at hg
    · exact h
  have hg2 : ((w.alloc (.cells #[.pointer (some t)] 47)).alloc (.cells #[.pointer (some ⟨4, 47, none⟩), .pointer (some ⟨w.heap.size, 0, none⟩), .int .u64 150] 75)).cell? ⟨0, 0, none⟩ = some (.iface 97 (.agg #[.pointer (some ⟨4, 30, none⟩)])) := by
    rw [World.cell?_alloc_lt _ _ ⟨0, 0, none⟩ (by simp), World.cell?_alloc_lt _ _ ⟨0, 0, none⟩ hlt]; exact hg
  have tOo := etype_o
  have aSo := assign_of
  have nA := noAs_o
  have nU := noUnwrap_o
  have nV := noUnwraps_o
  dsimp only [ot]
  go_enter Tryd.func26, Tryd.ntmps26
  go_wp2
  refine wp_loop_rounds 1 ?_
  rw [rounds_succ]
  go_wp2
  go_ret
  exact ⟨rfl, rfl⟩


set_option maxHeartbeats 4000000 in
theorem as_code_ot (p : Option Addr) (l : List (Nat × List UInt8)) (t : Addr) (w : World) (hch : Chn w (ot p) l) (hg : w.cell? ⟨0, 0, none⟩ = some (.iface 97 (.agg #[.pointer (some ⟨4, 30, none⟩)]))) :
    Calls Tryd.prog 26 #[ev (ot p) l, .iface 50 (.pointer (some t))] w fun ev w' => ev = .returned (.bool false) ∧ w' = (((w.alloc (.cells #[.pointer (some t)] 50)).alloc (.cells #[.pointer (some ⟨4, 50, none⟩), .pointer (some ⟨w.heap.size, 0, none⟩), .int .u64 150] 75)).alloc (.cells #[.pointer (some ⟨4, 50, none⟩), .pointer (some ⟨w.heap.size, 0, none⟩), .int .u64 150] 75)) := by
  have h6 := @run_callFunc_extern Tryd.prog 38 _ (fun args => ReflectliteValue.unpack (args.getD 0 (.tuple #[]))) Tryd.func38 (by kernel_rfl) (by kernel_rfl) (by kernel_rfl) (by kernel_rfl)
  have h7 := @run_callFunc_extern Tryd.prog 39 _ (ReflectliteValue.methodAny (ReflectliteValue.valueError "reflectlite.Value.Type" 0) (fun t _ _ _ => ReflectliteType.toType t)) Tryd.func39 (by kernel_rfl) (by kernel_rfl) (by kernel_rfl) (by kernel_rfl)
  have h8 := @run_callFunc_extern Tryd.prog 40 _ (ReflectliteValue.method (ReflectliteValue.valueError "reflectlite.Value.IsNil" 0) ReflectliteValue.isNil) Tryd.func40 (by kernel_rfl) (by kernel_rfl) (by kernel_rfl) (by kernel_rfl)
  have h27 := @run_callFunc_extern Tryd.prog 112 _ (ReflectliteType.abiMethod fun t => do pure (.int .u8 (← Rtype.kind t))) Tryd.func112 (by kernel_rfl) (by kernel_rfl) (by kernel_rfl) (by kernel_rfl)
  have h37 := @run_callFunc_extern Tryd.prog 124 _ (ReflectliteType.method ReflectliteType.elem) Tryd.func124 (by kernel_rfl) (by kernel_rfl) (by kernel_rfl) (by kernel_rfl)
  have h38 := @run_callFunc_extern Tryd.prog 125 _ (ReflectliteType.relation "Implements" ReflectliteType.implements_) Tryd.func125 (by kernel_rfl) (by kernel_rfl) (by kernel_rfl) (by kernel_rfl)
  have h10 := @run_callFunc_extern Tryd.prog 36 _ ReflectliteType.typeOf Tryd.func36 (by kernel_rfl) (by kernel_rfl) (by kernel_rfl) (by kernel_rfl)
  have h35 := @run_callFunc_extern Tryd.prog 122 _ (ReflectliteType.relation "AssignableTo" ReflectliteType.assignableTo) Tryd.func122 (by kernel_rfl) (by kernel_rfl) (by kernel_rfl) (by kernel_rfl)
  have h11 := @run_callFunc_extern Tryd.prog 54 _ (ReflectliteValue.method (ReflectliteValue.valueError "reflectlite.Value.Elem" 0) ReflectliteValue.elem) Tryd.func54 (by kernel_rfl) (by kernel_rfl) (by kernel_rfl) (by kernel_rfl)
  have h12 := @run_callFunc_extern Tryd.prog 55 _ ReflectliteValue.set Tryd.func55 (by kernel_rfl) (by kernel_rfl) (by kernel_rfl) (by kernel_rfl)
  have mK := methodKind
  have mE := methodElem
  have mI := methodImplements
  have mA := methodAssignableTo
  have f6 := pval_c
  have f7 := ptype_c
  have k27 := pkind_c
  have k25 := ekind_c
  have e27 := pelem_c
  have i25 := eimpl_c
  have n8 := pisnil_c ⟨w.heap.size, 0, none⟩ t ((w.alloc (.cells #[.pointer (some t)] 50)).alloc (.cells #[.pointer (some ⟨4, 50, none⟩), .pointer (some ⟨w.heap.size, 0, none⟩), .int .u64 150] 75)) (by simp)
  have hlt : 0 < w.heap.size := by
    rcases Nat.eq_zero_or_pos w.heap.size with h0 | h
    · simp [World.cell?, h0] at hg
    · exact h
  have hg2 : ((w.alloc (.cells #[.pointer (some t)] 50)).alloc (.cells #[.pointer (some ⟨4, 50, none⟩), .pointer (some ⟨w.heap.size, 0, none⟩), .int .u64 150] 75)).cell? ⟨0, 0, none⟩ = some (.iface 97 (.agg #[.pointer (some ⟨4, 30, none⟩)])) := by
    rw [World.cell?_alloc_lt _ _ ⟨0, 0, none⟩ (by simp), World.cell?_alloc_lt _ _ ⟨0, 0, none⟩ hlt]; exact hg
  have tOf := etype_f
  have aSf := assign_fc
  have tOo := etype_o
  have aSo := assign_oc
  have nA := noAs_f
  have uF := hasUnwrap_f
  have mU := methodUnwrap
  have nAo := noAs_o
  have nUo := noUnwrap_o
  have nVo := noUnwraps_o
  have hne := ev_iface ⟨_, _, rfl⟩ l (E0 := ot p)
  have hc3 := Lib.hid (show Chn (((w.alloc (.cells #[.pointer (some t)] 50)).alloc (.cells #[.pointer (some ⟨4, 50, none⟩), .pointer (some ⟨w.heap.size, 0, none⟩), .int .u64 150] 75)).alloc (.cells #[.pointer (some ⟨4, 50, none⟩), .pointer (some ⟨w.heap.size, 0, none⟩), .int .u64 150] 75)) (ot p) l from ((hch.below ((Below.refl _ _).alloc (Nat.le_refl _) _)).below ((Below.refl _ _).alloc (Nat.le_refl _) _)).below ((Below.refl _ _).alloc (Nat.le_refl _) _))
  clear hch
  obtain ⟨E, hE⟩ : ∃ E, ev (ot p) l = E := ⟨_, rfl⟩
  rw [hE]
  obtain ⟨u, v, hu⟩ := hne
  rw [hE] at hu
  subst hu
  have hE' := Lib.hid hE
  clear hE
  go_enter Tryd.func26, Tryd.ntmps26
  go_wp2
  go_loopw [0] (fun E' wl => wl = (((w.alloc (.cells #[.pointer (some t)] 50)).alloc (.cells #[.pointer (some ⟨4, 50, none⟩), .pointer (some ⟨w.heap.size, 0, none⟩), .int .u64 150] 75)).alloc (.cells #[.pointer (some ⟨4, 50, none⟩), .pointer (some ⟨w.heap.size, 0, none⟩), .int .u64 150] 75)) ∧ ∃ l', Chn wl (ot p) l' ∧ E' = ev (ot p) l') (fun E' wl => chLen wl (ot p) E')
  case atStart => exact ⟨rfl, l, hc3.out, hE'.out.symm⟩
  case round =>
    obtain ⟨rfl, l', hc', rfl⟩ := hrel
    cases l' with
    | nil =>
      clear hc'
      dsimp only [ev, ot]
      go_wp2
      go_ret
      exact ⟨rfl, rfl⟩
    | cons q r =>
      obtain ⟨g, s⟩ := q
      have hcell := hc'.1.cell 1
      have hm1 := chLen_eq (noF_ot p) hc'
      have hm2 := chLen_eq (noF_ot p) hc'.2
      have HC := Lib.hid hc'.2
      clear hc'
      dsimp only [ev] at hm1 ⊢
      obtain ⟨u1, v1, hu1⟩ := ev_iface ⟨_, _, rfl⟩ r (E0 := ot p)
      have HU := Lib.hid hu1
      rw [hu1] at hm2 hcell
      clear hu1
      simp only [List.getElem?_toArray, List.getElem?_cons_succ, List.getElem?_cons_zero] at hcell
      go_wp2
      go_roundw
      case rel => exact ⟨trivial, r, HC.out, HU.out.symm⟩
      case measure =>
        show chLen _ _ (.iface u1 v1) < _
        rw [hm2, hm1]
        simp


theorem code_ot (p : Option Addr) : CodeIs (ot p) 24 := by
  intro l w hch hg
  have b1 : ∀ o, Below w.heap.size w (w.alloc o) := fun o => (Below.refl _ w).alloc (Nat.le_refl _) o
  have hc := (as_code_ot p l ⟨w.heap.size, 0, none⟩ (w.alloc (.cells #[.int .i64 0] 22)) (hch.below (b1 _)) (hg.below_ (b1 _))).mono (fun e w' ⟨h1, h2⟩ => (show e = Ending.returned (.bool false) ∧ Below w.heap.size w w' from ⟨h1, (b1 _).trans ((h2 ▸ below3 ..).mono (b1 _).size)⟩))
  have HC := Lib.hid hc
  obtain ⟨u, v, hu⟩ := ev_iface ⟨_, _, rfl⟩ l (E0 := ot p)
  rw [hu] at HC ⊢
  clear hu hch hg b1 hc
  go_enter Tryd.func18, Tryd.ntmps18
  go_wp2_with fail
  refine HC.out.mono ?_
  rintro e w1 ⟨rfl, h1⟩
  have H1 := Lib.hid h1
  clear h1
  go_wp2
  go_ret
  exact ⟨rfl, H1.out⟩
theorem as_fault_ot' (p : Option Addr) (t : Addr) (w : World) (hg : Et w) :
    Calls Tryd.prog 26 #[ot p, .iface 47 (.pointer (some t))] w fun ev w' => ev = .returned (.bool false) ∧ Below w.heap.size w w' :=
  (as_fault_ot p t w hg).mono fun ev w' ⟨h1, h2⟩ => ⟨h1, h2 ▸ below3 ..⟩
theorem cmd_ot (p : Option Addr) (w : World) (hg : Et w) : Calls Tryd.prog 20 #[ot p] w fun e w' => e = .returned (.string ⟨#[]⟩) ∧ Below w.heap.size w w' := by
  have b1 : ∀ o, Below w.heap.size w (w.alloc o) := fun o => (Below.refl _ w).alloc (Nat.le_refl _) o
  have HC := Lib.hid (as_fault_ot' p ⟨w.heap.size, 0, none⟩ (w.alloc (.cells #[.pointer none] 42)) (hg.below_ (b1 _)))
  have B1 := Lib.hid (b1 (.cells #[.pointer none] 42))
  clear hg b1
  dsimp only [ot]
  go_enter Tryd.func20, Tryd.ntmps20
  go_wp2_with (go_at_call 26; refine HC.out.mono ?_; rintro e w1 ⟨rfl, h1⟩; have H1 := Lib.hid (B1.out.trans (h1.mono B1.out.size)); clear h1)
  go_ret
  exact ⟨rfl, H1.out⟩
theorem enew_any (s : ByteArray) (w : World) : Calls Tryd.prog 21 #[.string s] w fun e w' => e = .returned (ot (some ⟨w.heap.size, 0, none⟩)) ∧ Below w.heap.size w w' := by
  go_enter Tryd.func21, Tryd.ntmps21
  go_wp2
  go_ret
  exact ⟨rfl, (Below.refl _ _).alloc (Nat.le_refl _) _⟩

set_option maxHeartbeats 1000000 in
theorem depth_gen (E0 : Value) (h0 : NoF E0) (hE : ∃ u v, E0 = .iface u v) (hN : ∀ t w, Et w → Calls Tryd.prog 26 #[E0, .iface 47 (.pointer (some t))] w fun ev w' => ev = .returned (.bool false) ∧ Below w.heap.size w w')
    (l : List (Nat × List UInt8)) (w : World) (hch : Chn w E0 l) (hg : Et w) (hl : l.length ≤ 1000) :
    Calls Tryd.prog 17 #[ev E0 l] w fun e w' => e = .returned (.int .i64 l.length) ∧ Below w.heap.size w w' := by
  obtain ⟨i, hi, hcmp⟩ := Option.map_eq_some_iff.1 fComp
  obtain ⟨j, hj, hjs⟩ := Option.map_eq_some_iff.1 fSize
  have b1 : ∀ o, Below w.heap.size w (w.alloc o) := fun o => (Below.refl _ w).alloc (Nat.le_refl _) o
  have HN := Lib.hid hN
  have HF := Lib.hid (fun e t old w1 hg ht hf => as_fault' e t old w1 hg ht hf)
  have HU := Lib.hid (fun g E w1 hc hE => unwrap_any g E w1 hc hE)
  have B1 := Lib.hid (b1 (.cells #[.pointer none] 42))
  have CH := Lib.hid hch
  have HG := Lib.hid hg
  have H0 := Lib.hid h0
  have HI := Lib.hid hE
  obtain ⟨u, v, hu⟩ := ev_iface hE l
  have HE := Lib.hid hu
  rw [hu]
  clear hu hch hg b1 hN h0 hE
  go_enter Tryd.func17, Tryd.ntmps17
  go_wp2
  go_loopw [0, 3] (fun E N wl => Below w.heap.size w wl ∧ (∃ old, wl.cell? ⟨w.heap.size, 0, none⟩ = some old ∧ wl.frozen? ⟨w.heap.size, 0, none⟩ = false) ∧ ∃ l', Chn w E0 l' ∧ E = ev E0 l' ∧ N = .int .i64 ((l.length : Int) - l'.length) ∧ l'.length ≤ l.length) (fun E N wl => chLen w E0 E)
  case atStart => exact ⟨B1.out, ⟨.pointer none, by simp, by simp⟩, l, CH.out, HE.out.symm, by simp, Nat.le_refl _⟩
  case round =>
    obtain ⟨hb, ⟨old, ho1, ho2⟩, l', hc', rfl, rfl, hle⟩ := hrel
    cases l' with
    | nil =>
      have HR := Lib.hid (HN.out ⟨w.heap.size, 0, none⟩ wr (HG.out.below_ hb))
      have HB := Lib.hid hb
      obtain ⟨u0, v0, hu0⟩ := HI.out
      subst hu0
      clear hb ho1 ho2 hc'
      simp only [List.length_nil, Int.ofNat_zero, Int.sub_zero]
      dsimp only [ev]
      go_wp2_with (go_at_call 26; refine HR.out.mono ?_; rintro e w1 ⟨rfl, h1⟩; have H1 := Lib.hid h1; clear h1)
      go_ret
      exact ⟨rfl, HB.out.trans (H1.out.mono HB.out.size)⟩
    | cons p r =>
      obtain ⟨g, s⟩ := p
      have HR := Lib.hid (HF.out ⟨g, 0, none⟩ ⟨w.heap.size, 0, none⟩ old wr (HG.out.below_ hb) ho1 ho2)
      have HB := Lib.hid hb
      have HC := Lib.hid hc'
      have HM := Lib.hid (chLen_eq H0.out hc')
      have HM2 := Lib.hid (chLen_eq H0.out hc'.2)
      clear hb ho1 ho2 hc'
      simp only [List.length_cons] at hle
      dsimp only [ev]
      go_wp2_with (first
        | (go_at_call 26; refine HR.out.mono ?_; rintro e w1 ⟨rfl, h1, h2, h3⟩; have H3 := Lib.hid (h3 w.heap.size (by simp) HB.out.size); clear h3; have heq := run_eql_iface_ptr_same (P := Tryd.prog) w1 ⟨g, 0, none⟩ Tryd.underlying30 Tryd.underlying42 hi hcmp hj)
        | (go_at_call 25; refine (HU.out g (ev E0 r) _ (chn_cell (HC.out.below (HB.out.trans H3.out))) (ev_iface HI.out r)).mono ?_; rintro e w2 ⟨rfl, rfl⟩))
      go_roundw
      case rel => exact ⟨HB.out.trans H3.out, ⟨_, h1, h2⟩, r, HC.out.2, rfl, by congr 1; omega, by omega⟩
      case measure =>
        show chLen w E0 (ev E0 r) < chLen w E0 (ev E0 ((g, s) :: r))
        rw [HM.out, HM2.out]
        simp
end Go.Proofs.YtnmchplabaoflaaDoor
