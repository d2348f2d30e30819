/- Chains of errors: Faults, one in the other, over an innermost error; errors.As over such a chain, by contracts. -/
import Derived.Test.YtnmchplabaoflaaGreatDoorFltA
import Derived.Test.YtnmchplabaoflaaGreatDoorOwn
namespace Go.Proofs.YtnmchplabaoflaaGreatDoor
open Go.RowKit Go.Extern.Stop Go.Stop Go.Extern
set_option linter.unusedVariables false

/-- A chain's value: each link is the block of a Fault and its command; below them the innermost error. -/
def ev (E0 : Value) : List (Nat × List UInt8) → Value
  | [] => E0
  | (g, _) :: _ => .iface 41 (.pointer (some ⟨g, 0, none⟩))
/-- The links lie in memory. -/
def Chn (W : World) (E0 : Value) : List (Nat × List UInt8) → Prop
  | [] => True
  | (g, s) :: r => Blk W g 43 #[sv s, ev E0 r] ∧ Chn W E0 r
theorem Chn.below {W W' : World} {E0 : Value} (hb : Below W.heap.size W W') : ∀ {l : List (Nat × List UInt8)}, Chn W E0 l → Chn W' E0 l
  | [], _ => trivial
  | (g, s) :: r, h => ⟨h.1.below hb h.1.lt, Chn.below hb h.2⟩
/-- The innermost error is no Fault. -/
def NoF (E0 : Value) : Prop := ∀ p, E0 ≠ .iface 41 p
theorem chn_len {W : World} {E0 : Value} (h0 : NoF E0) : ∀ {l l' : List (Nat × List UInt8)}, Chn W E0 l → Chn W E0 l' → ev E0 l = ev E0 l' → l.length = l'.length
  | [], [], _, _, _ => rfl
  | [], (g, s) :: r, _, _, h => absurd h (h0 _)
  | (g, s) :: r, [], _, _, h => absurd h.symm (h0 _)
  | (g, s) :: r, (g', s') :: r', h, h', he => by
    simp only [ev, Value.iface.injEq, Value.pointer.injEq, Option.some.injEq, Addr.mk.injEq, true_and, and_true] at he
    subst he
    have e := h.1.symm.trans h'.1
    simp only [Option.some.injEq, Obj.cells.injEq, Array.mk.injEq, List.cons.injEq, and_true] at e
    simp only [List.length_cons, chn_len h0 h.2 h'.2 e.2]
open Classical in
noncomputable def chLen (W : World) (E0 E : Value) : Nat := if h : ∃ l, Chn W E0 l ∧ E = ev E0 l then h.choose.length else 0
theorem chLen_eq {W : World} {E0 : Value} (h0 : NoF E0) {l : List (Nat × List UInt8)} (h : Chn W E0 l) : chLen W E0 (ev E0 l) = l.length := by
  unfold chLen
  have hx : ∃ l', Chn W E0 l' ∧ ev E0 l = ev E0 l' := ⟨l, h, rfl⟩
  rw [dif_pos hx]
  exact (chn_len h0 h hx.choose_spec.1 hx.choose_spec.2).symm
theorem noF_code (c : Int) : NoF (.iface 26 (.int .i64 c)) := by intro p h; cases h

theorem as_nil (t : Value) (w : World) :
    Calls Tryz.prog 44 #[.nilIface, t] w fun e w' => e = .returned (.bool false) ∧ w' = w := by
  go_enter Tryz.func44, Tryz.ntmps44
  go_wp2
  go_ret
  exact ⟨rfl, rfl⟩


set_option maxHeartbeats 4000000 in
set_option maxRecDepth 100000 in
/-- errors.As at a chain over a Code, the target a Code: the innermost one. -/
theorem as_code (c : Int) (l : List (Nat × List UInt8)) (t : Addr) (old : Value) (w : World) (hch : Chn w (.iface 26 (.int .i64 c)) l) (hg : w.cell? ⟨0, 0, none⟩ = some (.iface 106 (.agg #[.pointer (some ⟨4, 29, none⟩)]))) (ht0 : w.cell? t = some old) (hf0 : w.frozen? t = false) :
    Calls Tryz.prog 44 #[ev (.iface 26 (.int .i64 c)) l, .iface 68 (.pointer (some t))] w fun ev w' => ev = .returned (.bool true) ∧ w' = ((((w.alloc (.cells #[.pointer (some t)] 68)).alloc (.cells #[.pointer (some ⟨4, 68, none⟩), .pointer (some ⟨w.heap.size, 0, none⟩), .int .u64 150] 89)).alloc (.cells #[.pointer (some ⟨4, 68, none⟩), .pointer (some ⟨w.heap.size, 0, none⟩), .int .u64 150] 89)).alloc (.cells #[.int .i64 c] 26)).setCell t (.int .i64 c) := by
  have h6 := @run_callFunc_extern Tryz.prog 60 _ (fun args => ReflectliteValue.unpack (args.getD 0 (.tuple #[]))) Tryz.func60 (by kernel_rfl) (by kernel_rfl) (by kernel_rfl) (by kernel_rfl)
  have h7 := @run_callFunc_extern Tryz.prog 61 _ (ReflectliteValue.methodAny (ReflectliteValue.valueError "reflectlite.Value.Type" 0) (fun t _ _ _ => ReflectliteType.toType t)) Tryz.func61 (by kernel_rfl) (by kernel_rfl) (by kernel_rfl) (by kernel_rfl)
  have h8 := @run_callFunc_extern Tryz.prog 62 _ (ReflectliteValue.method (ReflectliteValue.valueError "reflectlite.Value.IsNil" 0) ReflectliteValue.isNil) Tryz.func62 (by kernel_rfl) (by kernel_rfl) (by kernel_rfl) (by kernel_rfl)
  have h27 := @run_callFunc_extern Tryz.prog 103 _ (ReflectliteType.abiMethod fun t => do pure (.int .u8 (← Rtype.kind t))) Tryz.func103 (by kernel_rfl) (by kernel_rfl) (by kernel_rfl) (by kernel_rfl)
  have h37 := @run_callFunc_extern Tryz.prog 116 _ (ReflectliteType.method ReflectliteType.elem) Tryz.func116 (by kernel_rfl) (by kernel_rfl) (by kernel_rfl) (by kernel_rfl)
  have h38 := @run_callFunc_extern Tryz.prog 117 _ (ReflectliteType.relation "Implements" ReflectliteType.implements_) Tryz.func117 (by kernel_rfl) (by kernel_rfl) (by kernel_rfl) (by kernel_rfl)
  have h10 := @run_callFunc_extern Tryz.prog 74 _ ReflectliteType.typeOf Tryz.func74 (by kernel_rfl) (by kernel_rfl) (by kernel_rfl) (by kernel_rfl)
  have h35 := @run_callFunc_extern Tryz.prog 114 _ (ReflectliteType.relation "AssignableTo" ReflectliteType.assignableTo) Tryz.func114 (by kernel_rfl) (by kernel_rfl) (by kernel_rfl) (by kernel_rfl)
  have h11 := @run_callFunc_extern Tryz.prog 75 _ (ReflectliteValue.method (ReflectliteValue.valueError "reflectlite.Value.Elem" 0) ReflectliteValue.elem) Tryz.func75 (by kernel_rfl) (by kernel_rfl) (by kernel_rfl) (by kernel_rfl)
  have h12 := @run_callFunc_extern Tryz.prog 76 _ ReflectliteValue.set Tryz.func76 (by kernel_rfl) (by kernel_rfl) (by kernel_rfl) (by kernel_rfl)
  have mK := methodKind
  have mE := methodElem
  have mI := methodImplements
  have mA := methodAssignableTo
  have f6 := pval_c
  have f7 := ptype_c
  have k27 := pkind_c
  have k25 := ekind_c
  have e27 := pelem_c
  have i25 := eimpl_c
  have n8 := pisnil_c ⟨w.heap.size, 0, none⟩ t ((w.alloc (.cells #[.pointer (some t)] 68)).alloc (.cells #[.pointer (some ⟨4, 68, none⟩), .pointer (some ⟨w.heap.size, 0, none⟩), .int .u64 150] 89)) (by simp)
  have hlt : 0 < w.heap.size := by
    rcases Nat.eq_zero_or_pos w.heap.size with h0 | h
    · simp [World.cell?, h0] at hg
    · exact h
  have hg2 : ((w.alloc (.cells #[.pointer (some t)] 68)).alloc (.cells #[.pointer (some ⟨4, 68, none⟩), .pointer (some ⟨w.heap.size, 0, none⟩), .int .u64 150] 89)).cell? ⟨0, 0, none⟩ = some (.iface 106 (.agg #[.pointer (some ⟨4, 29, none⟩)])) := by
    rw [World.cell?_alloc_lt _ _ ⟨0, 0, none⟩ (by simp), World.cell?_alloc_lt _ _ ⟨0, 0, none⟩ hlt]; exact hg
  have tOf := etype_f
  have aSf := assign_fc
  have tOc := etype_c
  have aSc := assign_cc
  have htl : t.block < w.heap.size := by
    rcases Nat.lt_or_ge t.block w.heap.size with h | h
    · exact h
    · simp [World.cell?, Array.getElem?_eq_none h] at ht0
  have v25 := eval_c
  have el := pelemV_c ⟨w.heap.size, 0, none⟩ t (((w.alloc (.cells #[.pointer (some t)] 68)).alloc (.cells #[.pointer (some ⟨4, 68, none⟩), .pointer (some ⟨w.heap.size, 0, none⟩), .int .u64 150] 89)).alloc (.cells #[.pointer (some ⟨4, 68, none⟩), .pointer (some ⟨w.heap.size, 0, none⟩), .int .u64 150] 89)) (by rw [World.cell?_alloc_lt _ _ ⟨w.heap.size, 0, none⟩ (by simp; omega)]; simp)
  have st := eset_c t ⟨w.heap.size + 1 + 1 + 1, 0, none⟩ c old ((((w.alloc (.cells #[.pointer (some t)] 68)).alloc (.cells #[.pointer (some ⟨4, 68, none⟩), .pointer (some ⟨w.heap.size, 0, none⟩), .int .u64 150] 89)).alloc (.cells #[.pointer (some ⟨4, 68, none⟩), .pointer (some ⟨w.heap.size, 0, none⟩), .int .u64 150] 89)).alloc (.cells #[.int .i64 c] 26))
    (by rw [World.cell?_alloc_at _ _ _ _ (by simp)]; rfl)
    (by rw [World.cell?_alloc_lt _ _ t (by simp; omega), World.cell?_alloc_lt _ _ t (by simp; omega), World.cell?_alloc_lt _ _ t (by simp; omega), World.cell?_alloc_lt _ _ t htl]; exact ht0)
    (by rw [World.frozen?_alloc_old _ _ t (by simp; omega), World.frozen?_alloc_old _ _ t (by simp; omega), World.frozen?_alloc_old _ _ t (by simp; omega), World.frozen?_alloc_old _ _ t (Nat.ne_of_lt htl)]; exact hf0)
  have nA := noAs_f
  have uF := hasUnwrap_f
  have mU := methodUnwrap
  have hne : ∃ u v, ev (.iface 26 (.int .i64 c)) l = .iface u v := by cases l with
    | nil => exact ⟨_, _, rfl⟩
    | cons p r => exact ⟨_, _, rfl⟩
  have hc3 := Lib.hid (show Chn (((w.alloc (.cells #[.pointer (some t)] 68)).alloc (.cells #[.pointer (some ⟨4, 68, none⟩), .pointer (some ⟨w.heap.size, 0, none⟩), .int .u64 150] 89)).alloc (.cells #[.pointer (some ⟨4, 68, none⟩), .pointer (some ⟨w.heap.size, 0, none⟩), .int .u64 150] 89)) (.iface 26 (.int .i64 c)) l from ((hch.below ((Below.refl _ _).alloc (Nat.le_refl _) _)).below ((Below.refl _ _).alloc (Nat.le_refl _) _)).below ((Below.refl _ _).alloc (Nat.le_refl _) _))
  clear hch
  obtain ⟨E, hE⟩ : ∃ E, ev (.iface 26 (.int .i64 c)) l = E := ⟨_, rfl⟩
  rw [hE]
  obtain ⟨u, v, hu⟩ := hne
  rw [hE] at hu
  subst hu
  have hE' := Lib.hid hE
  clear hE
  go_enter Tryz.func44, Tryz.ntmps44
  go_wp2
  go_loopw [0] (fun E' wl => wl = (((w.alloc (.cells #[.pointer (some t)] 68)).alloc (.cells #[.pointer (some ⟨4, 68, none⟩), .pointer (some ⟨w.heap.size, 0, none⟩), .int .u64 150] 89)).alloc (.cells #[.pointer (some ⟨4, 68, none⟩), .pointer (some ⟨w.heap.size, 0, none⟩), .int .u64 150] 89)) ∧ ∃ l', Chn wl (.iface 26 (.int .i64 c)) l' ∧ E' = ev (.iface 26 (.int .i64 c)) l') (fun E' wl => chLen wl (.iface 26 (.int .i64 c)) E')
  case atStart => exact ⟨rfl, l, hc3.out, hE'.out.symm⟩
  case round =>
    obtain ⟨rfl, l', hc', rfl⟩ := hrel
    cases l' with
    | nil =>
      clear hc'
      dsimp only [ev]
      go_wp2
      go_ret
      exact ⟨rfl, rfl⟩
    | cons p r =>
      obtain ⟨g, s⟩ := p
      have hcell := hc'.1.cell 1
      have hm1 := chLen_eq (noF_code c) hc'
      have hm2 := chLen_eq (noF_code c) hc'.2
      have HC := Lib.hid hc'.2
      clear hc'
      dsimp only [ev] at hm1 ⊢
      have hne : ∃ u v, ev (.iface 26 (.int .i64 c)) r = .iface u v := by cases r with
        | nil => exact ⟨_, _, rfl⟩
        | cons p r => exact ⟨_, _, rfl⟩
      obtain ⟨u1, v1, hu1⟩ := hne
      have HU := Lib.hid hu1
      rw [hu1] at hm2 hcell
      clear hu1
      simp only [List.getElem?_toArray, List.getElem?_cons_succ, List.getElem?_cons_zero] at hcell
      go_wp2
      go_roundw
      case rel => exact ⟨trivial, r, HC.out, HU.out.symm⟩
      case measure =>
        show chLen _ _ (.iface u1 v1) < _
        rw [hm2, hm1]
        simp

end Go.Proofs.YtnmchplabaoflaaGreatDoor
