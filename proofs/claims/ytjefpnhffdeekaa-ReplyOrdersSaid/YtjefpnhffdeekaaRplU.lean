/- The walk of made (tallboylaw17). -/
import Derived.Test.YtjefpnhffdeekaaRplS
namespace Go.Proofs.Ytjefpnhffdeekaa
open Go.RowKit Go.Shelf
set_option linter.unusedVariables false

theorem alloc_size17 (w : World) (o : Obj) : (w.alloc o).heap.size = w.heap.size + 1 := by simp
def okM : Nat → Rep → Prop
  | 0, .mk k s n l => fits k ∧ fits n ∧ s.length ≤ 20 ∧ l = []
  | d + 1, .mk k s n l => fits k ∧ fits n ∧ s.length ≤ 20 ∧ l.length ≤ 4 ∧ (∀ r ∈ l, okM d r) ∧ (l = [] ∨ prt k = true)
/-- A slice of nodes as it comes in. -/
def ArgN (w : World) (v : Value) (n : Nat) : Prop :=
  ∃ A c, v = .slice A n c ∧ n ≤ maxLen ∧ ∀ i, i < n → ∃ a kd pt nn s, A = some a ∧ a.block < w.heap.size ∧ w.cell? (a.add (i * 4)) = some (.int .i64 kd) ∧ w.cell? ⟨(a.add (i * 4)).block, (a.add (i * 4)).off + 1, none⟩ = some (.int .i64 pt) ∧
    w.cell? ⟨(a.add (i * 4)).block, (a.add (i * 4)).off + 2, none⟩ = some (.int .i64 nn) ∧ w.cell? ⟨(a.add (i * 4)).block, (a.add (i * 4)).off + 3, none⟩ = some (.string s) ∧ fits kd ∧ fits pt ∧ fits nn ∧ s.size ≤ maxLen
theorem ArgN.below {w w' : World} {v : Value} {n : Nat} (h : ArgN w v n) (hb : Below w.heap.size w w') : ArgN w' v n := by
  obtain ⟨A, c, h1, h2, h3⟩ := h
  refine ⟨A, c, h1, h2, fun i hi => ?_⟩
  obtain ⟨a, kd, pt, nn, s, rfl, hab, c0, c1, c2, c3, hf⟩ := h3 i hi
  exact ⟨a, kd, pt, nn, s, rfl, Nat.lt_of_lt_of_le hab hb.size, (hb.cell (by rw [block_of_add]; exact hab)).trans c0, (hb.cell (by simp only [block_of_add]; exact hab)).trans c1, (hb.cell (by simp only [block_of_add]; exact hab)).trans c2, (hb.cell (by simp only [block_of_add]; exact hab)).trans c3, hf⟩
/-- What made gives. -/
def MRet (w w' : World) (e : Ending) (d m : Nat) : Prop :=
  ∃ r E f q, e = .returned (.tuple #[.agg #[.int .i64 r.k, sv r.s, .int .i64 r.n, .slice E r.l.length f], .int .i64 (q : Nat)]) ∧ okM d r ∧ RV w' (New w w') r [.int .i64 r.k, sv r.s, .int .i64 r.n, .slice E r.l.length f] ∧ q ≤ m
def MadeAt (d : Nat) : Prop := ∀ (w : World) (v : Value) (m p : Nat), ArgN w v m → p ≤ m →
  Calls Try.prog 4 #[v, .int .i64 p, .int .i64 (6 - (d : Int))] w fun e w' => MRet w w' e d m ∧ Below w.heap.size w w'

set_option maxRecDepth 100000 in
set_option maxHeartbeats 8000000 in
theorem made_end (d : Nat) (hd : d ≤ 6) (w : World) (v : Value) (m p : Nat) (hv : ArgN w v m) (hp : p = m) :
    Calls Try.prog 4 #[v, .int .i64 p, .int .i64 (6 - (d : Int))] w fun e w' => MRet w w' e d m ∧ Below w.heap.size w w' := by
  subst hp
  obtain ⟨A, c, rfl, hm, _⟩ := hv
  unfold maxLen at hm
  obtain ⟨D, hD⟩ : ∃ D : Int, 6 - (d : Int) = D := ⟨_, rfl⟩
  rw [hD]
  clear hD
  go_enter Try.func4, Try.ntmps4
  go_wp2_with fail
  refine bodyPost_ret (ret_cell2 rfl _ _ w.heap.size _ _ _ _ _ rfl (Blk.new w _ _)) rfl ?_
  refine ⟨⟨.mk 5 [] 0 [], none, 0, p, rfl, ?_, RV.flat_ (k := 5) (n := 0) (by unfold fits; omega) (by unfold fits; omega) (Nat.zero_le _), Nat.le_refl _⟩, (Below.refl _ _).alloc (Nat.le_refl _) _⟩
  cases d with
  | zero => exact ⟨by unfold fits; omega, by unfold fits; omega, by simp, rfl⟩
  | succ d => exact ⟨by unfold fits; omega, by unfold fits; omega, by simp, by simp, by simp, .inl rfl⟩

theorem okM_leaf (d : Nat) {k n : Int} {s : List UInt8} (hk : fits k) (hn : fits n) (hs : s.length ≤ 20) : okM d (.mk k s n []) := by
  cases d with
  | zero => exact ⟨hk, hn, hs, rfl⟩
  | succ d => exact ⟨hk, hn, hs, by simp, by simp, .inl rfl⟩

set_option maxRecDepth 100000 in
set_option maxHeartbeats 8000000 in
theorem made_zero (w : World) (v : Value) (m p : Nat) (hv : ArgN w v m) (hp : p < m) :
    Calls Try.prog 4 #[v, .int .i64 p, .int .i64 (6 - ((0 : Nat) : Int))] w fun e w' => MRet w w' e 0 m ∧ Below w.heap.size w w' := by
  obtain ⟨A, c, rfl, hm, hcs⟩ := hv
  obtain ⟨a, kd, pt, nn, s, rfl, hab, c0, c1, c2, c3, hk, hpt, hnn, hs⟩ := hcs p hp
  unfold maxLen at hm
  obtain ⟨t1, t2, _, _⟩ := tmod_facts nn 5 (by decide)
  obtain ⟨NN, hNN⟩ : ∃ z, nn.tmod 5 = z := ⟨_, rfl⟩
  rw [hNN] at t1 t2
  have hwr : IntKind.i64.wrap NN = NN := by rw [IntKind.wrap_i64]; omega
  have hNf : fits NN := by unfold fits; omega
  have hpm : (p : Int) < (m : Int) := by omega
  have hcut := fun w => cut_any s 9 w hs (by omega)
  have hSl : (s.data.toList.take 9).length ≤ 20 := Nat.le_trans (List.length_take_le _ _) (by decide)
  obtain ⟨S, hS⟩ : ∃ S, s.data.toList.take 9 = S := ⟨_, rfl⟩
  rw [hS] at hcut hSl
  clear hS
  have hg : ∀ o, (w.alloc o).cell? (a.add (p * 4)) = some (.int .i64 kd) ∧ (w.alloc o).cell? ⟨(a.add (p * 4)).block, (a.add (p * 4)).off + 1, none⟩ = some (.int .i64 pt) ∧ (w.alloc o).cell? ⟨(a.add (p * 4)).block, (a.add (p * 4)).off + 2, none⟩ = some (.int .i64 nn) ∧ (w.alloc o).cell? ⟨(a.add (p * 4)).block, (a.add (p * 4)).off + 3, none⟩ = some (.string s) := fun o =>
    ⟨(World.cell?_alloc_lt w o _ (by rw [block_of_add]; exact hab)).trans c0, (World.cell?_alloc_lt w o _ (by simp only [block_of_add]; exact hab)).trans c1, (World.cell?_alloc_lt w o _ (by simp only [block_of_add]; exact hab)).trans c2, (World.cell?_alloc_lt w o _ (by simp only [block_of_add]; exact hab)).trans c3⟩
  obtain ⟨g0, g1, g2, g3⟩ := hg (.cells #[.int .i64 0, .string ⟨#[]⟩, .int .i64 0, .slice none 0 0] 25)
  have hB8 := Blk.new (w.alloc (.cells #[.int .i64 0, .string ⟨#[]⟩, .int .i64 0, .slice none 0 0] 25)) 33 #[.int .i64 kd, .int .i64 pt, .int .i64 nn, .string s]
  have hB6 := (Blk.new w 25 #[.int .i64 0, .string ⟨#[]⟩, .int .i64 0, .slice none 0 0]).alloc (.cells #[.int .i64 kd, .int .i64 pt, .int .i64 nn, .string s] 33)
  have hb2 : Below w.heap.size w ((w.alloc (.cells #[.int .i64 0, .string ⟨#[]⟩, .int .i64 0, .slice none 0 0] 25)).alloc (.cells #[.int .i64 kd, .int .i64 pt, .int .i64 nn, .string s] 33)) := ((Below.refl _ _).alloc (Nat.le_refl _) _).alloc (by simp) _
  rw [alloc_size17] at hB8
  have HB8 := Lib.hid hB8
  have HB6 := Lib.hid hB6
  have Hb2 := Lib.hid hb2
  have HW2 := Lib.hid (show ((w.alloc (.cells #[.int .i64 0, .string ⟨#[]⟩, .int .i64 0, .slice none 0 0] 25)).alloc (.cells #[.int .i64 kd, .int .i64 pt, .int .i64 nn, .string s] 33)).heap.size = w.heap.size + 2 by rw [alloc_size17, alloc_size17])
  obtain ⟨D, hD⟩ : ∃ D : Int, 6 - ((0 : Nat) : Int) = D := ⟨_, rfl⟩
  have hD6 : D = 6 := by omega
  subst hD6
  rw [hD]
  clear hD
  clear hB8 hB6 hb2 hg
  go_enter Try.func4, Try.ntmps4
  go_wp2_with fail
  obtain ⟨W, hW⟩ : ∃ W, ((w.alloc (.cells #[.int .i64 0, .string ⟨#[]⟩, .int .i64 0, .slice none 0 0] 25)).alloc (.cells #[.int .i64 kd, .int .i64 pt, .int .i64 nn, .string s] 33)) = W := ⟨_, rfl⟩
  rw [hW] at HB8 HB6 Hb2 HW2 ⊢
  have hs0 := HB8.out.x4
  clear hW g0 g1 g2 g3 c0 c1 c2 c3
  go_region_held3 (fun w' => w'.cell? ⟨w.heap.size + 1, 0, none⟩ = some (.int .i64 kd) ∧ w'.cell? ⟨w.heap.size + 1, 1, none⟩ = some (.int .i64 pt) ∧ w'.cell? ⟨w.heap.size + 1, 2, none⟩ = some (.int .i64 nn) ∧ w'.cell? ⟨w.heap.size + 1, 3, none⟩ = some (.string s)) (first | exact hs0 | go_keep)
    (first
      | (go_at_call 10; refine (hcut _).mono ?_; rintro e w' ⟨rfl, rfl⟩))
  all_goals
    have hB6 := Lib.hid (HB6.out.alloc (.cells #[.int .i64 kd, sv S, .int .i64 NN, .slice none 0 0] 25)).drew
    have hB8 := Lib.hid (HB8.out.alloc (.cells #[.int .i64 kd, sv S, .int .i64 NN, .slice none 0 0] 25)).drew
    have hB9 := Lib.hid (Blk.new W 25 #[.int .i64 kd, sv S, .int .i64 NN, .slice none 0 0]).drew
    have hb3 := Lib.hid (Hb2.out.alloc Hb2.out.size (.cells #[.int .i64 kd, sv S, .int .i64 NN, .slice none 0 0] 25)).drew
    have hW3 := Lib.hid (show (W.alloc (.cells #[.int .i64 kd, sv S, .int .i64 NN, .slice none 0 0] 25)).drew.heap.size = w.heap.size + 3 by show (W.alloc _).heap.size = _; rw [alloc_size17, HW2.out])
    have hW9 := Lib.hid HW2.out
    obtain ⟨X, hX⟩ : ∃ X, (W.alloc (.cells #[.int .i64 kd, sv S, .int .i64 NN, .slice none 0 0] 25)).drew = X := ⟨_, rfl⟩
    rw [hX] at hB6 hB8 hB9 hb3 hW3 ⊢
    rw [HW2.out] at hB9 ⊢
    clear hX
    have q0 := hB8.out.cell 0
    have q1 := hB8.out.cell 1
    have k0 := hB6.out.cell 0
    have kz0 := hB6.out.frozen 0
    have k1 := hB6.out.cell 1
    have kz1 := hB6.out.frozen 1
    have k2 := hB6.out.cell 2
    have kz2 := hB6.out.frozen 2
    have k3 := hB6.out.cell 3
    have kz3 := hB6.out.frozen 3
    have j0 := hB9.out.cell 0
    have jz0 := hB9.out.frozen 0
    have j1 := hB9.out.cell 1
    have jz1 := hB9.out.frozen 1
    have j2 := hB9.out.cell 2
    have jz2 := hB9.out.frozen 2
    have j3 := hB9.out.cell 3
    have jz3 := hB9.out.frozen 3
    go_wp2_with fail
    refine bodyPost_ret (ret_cell2 rfl _ _ w.heap.size _ _ _ _ _ rfl (hB6.out.put4 _ _ _ _)) rfl ?_
    refine ⟨⟨.mk kd S NN [], none, 0, p + 1, rfl, ?_, RV.flat_ (k := kd) (n := NN) hk hNf (by unfold maxLen; omega), by omega⟩, put4_below hb3.out _ (Nat.le_refl _) _ _ _ _⟩
    exact okM_leaf 0 hk hNf hSl

set_option maxRecDepth 100000 in
set_option maxHeartbeats 8000000 in
theorem made_succ (e0 : Nat) (hd : e0 ≤ 5) (ih : MadeAt e0) (w : World) (v : Value) (m p : Nat) (hv : ArgN w v m) (hp : p < m) :
    Calls Try.prog 4 #[v, .int .i64 p, .int .i64 (6 - ((e0 + 1 : Nat) : Int))] w fun e w' => MRet w w' e (e0 + 1) m ∧ Below w.heap.size w w' := by
  have Hv := Lib.hid hv
  obtain ⟨A, c, rfl, hm, hcs⟩ := hv
  obtain ⟨a, kd, pt, nn, s, rfl, hab, c0, c1, c2, c3, hk, hpt, hnn, hs⟩ := hcs p hp
  unfold maxLen at hm
  obtain ⟨t1, t2, _, _⟩ := tmod_facts nn 5 (by decide)
  obtain ⟨NN, hNN⟩ : ∃ z, nn.tmod 5 = z := ⟨_, rfl⟩
  rw [hNN] at t1 t2
  have hwr : IntKind.i64.wrap NN = NN := by rw [IntKind.wrap_i64]; omega
  have hNf : fits NN := by unfold fits; omega
  have hpm : (p : Int) < (m : Int) := by omega
  have hcut := fun w => cut_any s 9 w hs (by omega)
  have hSl : (s.data.toList.take 9).length ≤ 20 := Nat.le_trans (List.length_take_le _ _) (by decide)
  obtain ⟨S, hS⟩ : ∃ S, s.data.toList.take 9 = S := ⟨_, rfl⟩
  rw [hS] at hcut hSl
  clear hS
  have hg : ∀ o, (w.alloc o).cell? (a.add (p * 4)) = some (.int .i64 kd) ∧ (w.alloc o).cell? ⟨(a.add (p * 4)).block, (a.add (p * 4)).off + 1, none⟩ = some (.int .i64 pt) ∧ (w.alloc o).cell? ⟨(a.add (p * 4)).block, (a.add (p * 4)).off + 2, none⟩ = some (.int .i64 nn) ∧ (w.alloc o).cell? ⟨(a.add (p * 4)).block, (a.add (p * 4)).off + 3, none⟩ = some (.string s) := fun o =>
    ⟨(World.cell?_alloc_lt w o _ (by rw [block_of_add]; exact hab)).trans c0, (World.cell?_alloc_lt w o _ (by simp only [block_of_add]; exact hab)).trans c1, (World.cell?_alloc_lt w o _ (by simp only [block_of_add]; exact hab)).trans c2, (World.cell?_alloc_lt w o _ (by simp only [block_of_add]; exact hab)).trans c3⟩
  obtain ⟨g0, g1, g2, g3⟩ := hg (.cells #[.int .i64 0, .string ⟨#[]⟩, .int .i64 0, .slice none 0 0] 25)
  have hB8 := Blk.new (w.alloc (.cells #[.int .i64 0, .string ⟨#[]⟩, .int .i64 0, .slice none 0 0] 25)) 33 #[.int .i64 kd, .int .i64 pt, .int .i64 nn, .string s]
  have hB6 := (Blk.new w 25 #[.int .i64 0, .string ⟨#[]⟩, .int .i64 0, .slice none 0 0]).alloc (.cells #[.int .i64 kd, .int .i64 pt, .int .i64 nn, .string s] 33)
  have hb2 : Below w.heap.size w ((w.alloc (.cells #[.int .i64 0, .string ⟨#[]⟩, .int .i64 0, .slice none 0 0] 25)).alloc (.cells #[.int .i64 kd, .int .i64 pt, .int .i64 nn, .string s] 33)) := ((Below.refl _ _).alloc (Nat.le_refl _) _).alloc (by simp) _
  rw [alloc_size17] at hB8
  have HB8 := Lib.hid hB8
  have HB6 := Lib.hid hB6
  have Hb2 := Lib.hid hb2
  have HW2 := Lib.hid (show ((w.alloc (.cells #[.int .i64 0, .string ⟨#[]⟩, .int .i64 0, .slice none 0 0] 25)).alloc (.cells #[.int .i64 kd, .int .i64 pt, .int .i64 nn, .string s] 33)).heap.size = w.heap.size + 2 by rw [alloc_size17, alloc_size17])
  obtain ⟨D, hD⟩ : ∃ D : Int, 6 - ((e0 + 1 : Nat) : Int) = D := ⟨_, rfl⟩
  have hD5 : D ≤ 5 := by omega
  have hD0 : 0 ≤ D := by omega
  have HD := Lib.hid (show 6 - (e0 : Int) = D + 1 by omega)
  rw [hD]
  clear hD
  by_cases hk7 : kd < 7
  · have Hlf := Lib.hid (fun (hk : fits kd) (hNf : fits NN) => okM_leaf (e0 + 1) hk hNf hSl)
    clear hB8 hB6 hb2 hg
    go_enter Try.func4, Try.ntmps4
    go_wp2_with fail
    obtain ⟨W, hW⟩ : ∃ W, ((w.alloc (.cells #[.int .i64 0, .string ⟨#[]⟩, .int .i64 0, .slice none 0 0] 25)).alloc (.cells #[.int .i64 kd, .int .i64 pt, .int .i64 nn, .string s] 33)) = W := ⟨_, rfl⟩
    rw [hW] at HB8 HB6 Hb2 HW2 ⊢
    have hs0 := HB8.out.x4
    clear hW g0 g1 g2 g3 c0 c1 c2 c3
    go_region_held3 (fun w' => w'.cell? ⟨w.heap.size + 1, 0, none⟩ = some (.int .i64 kd) ∧ w'.cell? ⟨w.heap.size + 1, 1, none⟩ = some (.int .i64 pt) ∧ w'.cell? ⟨w.heap.size + 1, 2, none⟩ = some (.int .i64 nn) ∧ w'.cell? ⟨w.heap.size + 1, 3, none⟩ = some (.string s)) (first | exact hs0 | go_keep)
      (first
        | (go_at_call 10; refine (hcut _).mono ?_; rintro e w' ⟨rfl, rfl⟩))
    all_goals
      have hB6 := Lib.hid (HB6.out.alloc (.cells #[.int .i64 kd, sv S, .int .i64 NN, .slice none 0 0] 25)).drew
      have hB8 := Lib.hid (HB8.out.alloc (.cells #[.int .i64 kd, sv S, .int .i64 NN, .slice none 0 0] 25)).drew
      have hB9 := Lib.hid (Blk.new W 25 #[.int .i64 kd, sv S, .int .i64 NN, .slice none 0 0]).drew
      have hb3 := Lib.hid (Hb2.out.alloc Hb2.out.size (.cells #[.int .i64 kd, sv S, .int .i64 NN, .slice none 0 0] 25)).drew
      have hW3 := Lib.hid (show (W.alloc (.cells #[.int .i64 kd, sv S, .int .i64 NN, .slice none 0 0] 25)).drew.heap.size = w.heap.size + 3 by show (W.alloc _).heap.size = _; rw [alloc_size17, HW2.out])
      have hW9 := Lib.hid HW2.out
      obtain ⟨X, hX⟩ : ∃ X, (W.alloc (.cells #[.int .i64 kd, sv S, .int .i64 NN, .slice none 0 0] 25)).drew = X := ⟨_, rfl⟩
      rw [hX] at hB6 hB8 hB9 hb3 hW3 ⊢
      rw [HW2.out] at hB9 ⊢
      clear hX
      have q0 := hB8.out.cell 0
      have q1 := hB8.out.cell 1
      have k0 := hB6.out.cell 0
      have kz0 := hB6.out.frozen 0
      have k1 := hB6.out.cell 1
      have kz1 := hB6.out.frozen 1
      have k2 := hB6.out.cell 2
      have kz2 := hB6.out.frozen 2
      have k3 := hB6.out.cell 3
      have kz3 := hB6.out.frozen 3
      have j0 := hB9.out.cell 0
      have jz0 := hB9.out.frozen 0
      have j1 := hB9.out.cell 1
      have jz1 := hB9.out.frozen 1
      have j2 := hB9.out.cell 2
      have jz2 := hB9.out.frozen 2
      have j3 := hB9.out.cell 3
      have jz3 := hB9.out.frozen 3
      go_wp2_with fail
      refine bodyPost_ret (ret_cell2 rfl _ _ w.heap.size _ _ _ _ _ rfl (hB6.out.put4 _ _ _ _)) rfl ?_
      refine ⟨⟨.mk kd S NN [], none, 0, p + 1, rfl, ?_, RV.flat_ (k := kd) (n := NN) hk hNf (by unfold maxLen; omega), by omega⟩, put4_below hb3.out _ (Nat.le_refl _) _ _ _ _⟩
      exact Hlf.out hk hNf
  · by_cases hk9 : 9 < kd
    · have Hlf := Lib.hid (fun (hk : fits kd) (hNf : fits NN) => okM_leaf (e0 + 1) hk hNf hSl)
      clear hB8 hB6 hb2 hg
      go_enter Try.func4, Try.ntmps4
      go_wp2_with fail
      obtain ⟨W, hW⟩ : ∃ W, ((w.alloc (.cells #[.int .i64 0, .string ⟨#[]⟩, .int .i64 0, .slice none 0 0] 25)).alloc (.cells #[.int .i64 kd, .int .i64 pt, .int .i64 nn, .string s] 33)) = W := ⟨_, rfl⟩
      rw [hW] at HB8 HB6 Hb2 HW2 ⊢
      have hs0 := HB8.out.x4
      clear hW g0 g1 g2 g3 c0 c1 c2 c3
      go_region_held3 (fun w' => w'.cell? ⟨w.heap.size + 1, 0, none⟩ = some (.int .i64 kd) ∧ w'.cell? ⟨w.heap.size + 1, 1, none⟩ = some (.int .i64 pt) ∧ w'.cell? ⟨w.heap.size + 1, 2, none⟩ = some (.int .i64 nn) ∧ w'.cell? ⟨w.heap.size + 1, 3, none⟩ = some (.string s)) (first | exact hs0 | go_keep)
        (first
          | (go_at_call 10; refine (hcut _).mono ?_; rintro e w' ⟨rfl, rfl⟩))
      all_goals
        have hB6 := Lib.hid (HB6.out.alloc (.cells #[.int .i64 kd, sv S, .int .i64 NN, .slice none 0 0] 25)).drew
        have hB8 := Lib.hid (HB8.out.alloc (.cells #[.int .i64 kd, sv S, .int .i64 NN, .slice none 0 0] 25)).drew
        have hB9 := Lib.hid (Blk.new W 25 #[.int .i64 kd, sv S, .int .i64 NN, .slice none 0 0]).drew
        have hb3 := Lib.hid (Hb2.out.alloc Hb2.out.size (.cells #[.int .i64 kd, sv S, .int .i64 NN, .slice none 0 0] 25)).drew
        have hW3 := Lib.hid (show (W.alloc (.cells #[.int .i64 kd, sv S, .int .i64 NN, .slice none 0 0] 25)).drew.heap.size = w.heap.size + 3 by show (W.alloc _).heap.size = _; rw [alloc_size17, HW2.out])
        have hW9 := Lib.hid HW2.out
        obtain ⟨X, hX⟩ : ∃ X, (W.alloc (.cells #[.int .i64 kd, sv S, .int .i64 NN, .slice none 0 0] 25)).drew = X := ⟨_, rfl⟩
        rw [hX] at hB6 hB8 hB9 hb3 hW3 ⊢
        rw [HW2.out] at hB9 ⊢
        clear hX
        have q0 := hB8.out.cell 0
        have q1 := hB8.out.cell 1
        have k0 := hB6.out.cell 0
        have kz0 := hB6.out.frozen 0
        have k1 := hB6.out.cell 1
        have kz1 := hB6.out.frozen 1
        have k2 := hB6.out.cell 2
        have kz2 := hB6.out.frozen 2
        have k3 := hB6.out.cell 3
        have kz3 := hB6.out.frozen 3
        have j0 := hB9.out.cell 0
        have jz0 := hB9.out.frozen 0
        have j1 := hB9.out.cell 1
        have jz1 := hB9.out.frozen 1
        have j2 := hB9.out.cell 2
        have jz2 := hB9.out.frozen 2
        have j3 := hB9.out.cell 3
        have jz3 := hB9.out.frozen 3
        go_wp2_with fail
        refine bodyPost_ret (ret_cell2 rfl _ _ w.heap.size _ _ _ _ _ rfl (hB6.out.put4 _ _ _ _)) rfl ?_
        refine ⟨⟨.mk kd S NN [], none, 0, p + 1, rfl, ?_, RV.flat_ (k := kd) (n := NN) hk hNf (by unfold maxLen; omega), by omega⟩, put4_below hb3.out _ (Nat.le_refl _) _ _ _ _⟩
        exact Hlf.out hk hNf
    · obtain ⟨i0, hi, hz0, hz1, hz2⟩ := info_parts repinfo
      have hk7' : 7 ≤ kd := by omega
      have hk9' : kd ≤ 9 := by omega
      clear hB8 hB6 hb2 hg
      go_enter Try.func4, Try.ntmps4
      go_wp2_with fail
      obtain ⟨W, hW⟩ : ∃ W, ((w.alloc (.cells #[.int .i64 0, .string ⟨#[]⟩, .int .i64 0, .slice none 0 0] 25)).alloc (.cells #[.int .i64 kd, .int .i64 pt, .int .i64 nn, .string s] 33)) = W := ⟨_, rfl⟩
      rw [hW] at HB8 HB6 Hb2 HW2 ⊢
      have hs0 := HB8.out.x4
      clear hW g0 g1 g2 g3 c0 c1 c2 c3
      go_region_held3 (fun w' => w'.cell? ⟨w.heap.size + 1, 0, none⟩ = some (.int .i64 kd) ∧ w'.cell? ⟨w.heap.size + 1, 1, none⟩ = some (.int .i64 pt) ∧ w'.cell? ⟨w.heap.size + 1, 2, none⟩ = some (.int .i64 nn) ∧ w'.cell? ⟨w.heap.size + 1, 3, none⟩ = some (.string s)) (first | exact hs0 | go_keep)
        (first
          | (go_at_call 10; refine (hcut _).mono ?_; rintro e w' ⟨rfl, rfl⟩))
      all_goals
        have hB6 := Lib.hid (HB6.out.alloc (.cells #[.int .i64 kd, sv S, .int .i64 NN, .slice none 0 0] 25)).drew
        have hB8 := Lib.hid (HB8.out.alloc (.cells #[.int .i64 kd, sv S, .int .i64 NN, .slice none 0 0] 25)).drew
        have hB9 := Lib.hid (Blk.new W 25 #[.int .i64 kd, sv S, .int .i64 NN, .slice none 0 0]).drew
        have hb3 := Lib.hid (Hb2.out.alloc Hb2.out.size (.cells #[.int .i64 kd, sv S, .int .i64 NN, .slice none 0 0] 25)).drew
        have hW3 := Lib.hid (show (W.alloc (.cells #[.int .i64 kd, sv S, .int .i64 NN, .slice none 0 0] 25)).drew.heap.size = w.heap.size + 3 by show (W.alloc _).heap.size = _; rw [alloc_size17, HW2.out])
        have hW9 := Lib.hid HW2.out
        obtain ⟨X, hX⟩ : ∃ X, (W.alloc (.cells #[.int .i64 kd, sv S, .int .i64 NN, .slice none 0 0] 25)).drew = X := ⟨_, rfl⟩
        rw [hX] at hB6 hB8 hB9 hb3 hW3 ⊢
        rw [HW2.out] at hB9 ⊢
        clear hX
        have q0 := hB8.out.cell 0
        have q1 := hB8.out.cell 1
    
        go_wp2_with fail
        refine (within_nat pt 4 _ hpt (by omega) (by omega)).mono ?_
        rintro e w' ⟨z, hz, rfl, rfl⟩
        have hz4 : z ≤ 4 := by omega
        go_wp2_with fail
        go_loopw [10, 1] (fun x y wr => ∃ i q acc v, x = .int .i64 (i : Nat) ∧ y = .int .i64 (q : Nat) ∧ i + acc.length ≤ 4 ∧ q ≤ m ∧ Blk wr w.heap.size 25 #[.int .i64 0, .string ⟨#[]⟩, .int .i64 0, .slice none 0 0] ∧ Blk wr (w.heap.size + 2) 25 #[.int .i64 kd, sv S, .int .i64 NN, v] ∧ OR wr (w.heap.size + 3) v acc ∧ (∀ r ∈ acc, okM e0 r) ∧ Below w.heap.size w wr ∧ w.heap.size + 3 ≤ wr.heap.size) (fun x _ _ => (nOf x).toNat)
        case atStart => exact ⟨z, p + 1, [], .slice none 0 0, rfl, rfl, by simpa using hz4, by omega, hB6.out, hB9.out, OR.nil _ _, by simp, hb3.out, by rw [hW3.out]; exact Nat.le_refl _⟩
        case round =>
          obtain ⟨i, q, acc, v, rfl, rfl, hia, hqm, hB6, hB9, hO, hacc, hbel, hsz⟩ := hrel
          have HA := Lib.hid hacc
          clear hacc
          obtain ⟨xs, hown, hrl⟩ := hO
          obtain ⟨N, hN⟩ : ∃ N, acc.length = N := ⟨_, rfl⟩
          have HN := Lib.hid hN
          rw [hN] at hown hia
          clear hN
          obtain ⟨Av, cv, rfl⟩ := hown.sliceForm
          cases i with
          | zero =>
            have k0 := hB6.cell 0
            have k1 := hB6.cell 1
            have k2 := hB6.cell 2
            have k3 := hB6.cell 3
            have z0 := hB6.frozen 0
            have z1 := hB6.frozen 1
            have z2 := hB6.frozen 2
            have z3 := hB6.frozen 3
            have j0 := hB9.cell 0
            have j1 := hB9.cell 1
            have j2 := hB9.cell 2
            have j3 := hB9.cell 3
            go_wp2_with fail
            refine bodyPost_ret (ret_cell2 rfl _ _ w.heap.size _ _ _ _ _ rfl (hB6.put4 _ _ _ _)) rfl ?_
            have hO : OR wr (w.heap.size + 3) (.slice Av N cv) acc := ⟨xs, by rw [HN.out]; exact hown, hrl⟩
            have hOp := hO.put4 (g := w.heap.size) (by omega) (.int .i64 kd) (sv S) (.int .i64 NN) (.slice Av N cv)
            have hrv := OR.rv (k := kd) (n := NN) (s := S) (S := New w (put4 wr w.heap.size (.int .i64 kd) (sv S) (.int .i64 NN) (.slice Av N cv))) hOp hk hNf (by unfold maxLen; omega) HN.out.symm (fun b h1 h2 => ⟨by omega, h2⟩)
            refine ⟨⟨.mk kd S NN acc, Av, cv, q, ?_, ⟨hk, hNf, hSl, by rw [HN.out]; omega, HA.out, .inr (decide_eq_true (by omega))⟩, hrv, hqm⟩, put4_below hbel _ (Nat.le_refl _) _ _ _ _⟩
            show Ending.returned (.tuple #[.agg #[.int .i64 kd, .string (bs S), .int .i64 NN, .slice Av N cv], _]) = Ending.returned (.tuple #[.agg #[.int .i64 kd, sv S, .int .i64 NN, .slice Av acc.length cv], .int .i64 q])
            rw [HN.out]; rfl
          | succ i =>
            have hC := ih wr (.slice (some a) m c) m q (Hv.out.below hbel) hqm
            rw [HD.out] at hC
            have hgo : ∀ kk, (Value.slice Av N cv).ownBlock = some kk → w.heap.size + 3 ≤ kk := fun kk hkk => (hown.lt kk hkk).1
            go_wp2_with fail
            refine hC.mono ?_
            rintro e w1 ⟨⟨r, E, f, q', rfl, hokr, hrv, hq'⟩, hb1⟩
            have hB6' := hB6.below hb1 hB6.lt
            have hB9' := hB9.below hb1 hB9.lt
            have hown1 := hown.below_ hb1
            have hsz1 : w.heap.size + 3 ≤ w1.heap.size := Nat.le_trans hsz hb1.size
            have k3 := (hB9'.alloc (.cells #[.int .i64 r.k, .string (bs r.s), .int .i64 r.n, .slice E r.l.length f] 25)).cell 3
            have hB11 := Blk.new w1 25 #[.int .i64 r.k, .string (bs r.s), .int .i64 r.n, .slice E r.l.length f]
            have k4 := hB11.cell 0
            have k5 := hB11.cell 1
            have k6 := hB11.cell 2
            have k7 := hB11.cell 3
            have hb3' : w.heap.size + 3 ≤ (w1.alloc (.cells #[.int .i64 r.k, .string (bs r.s), .int .i64 r.n, .slice E r.l.length f] 25)).heap.size := by simp; omega
            have hown2 := (hown1.alloc (.cells #[.int .i64 r.k, .string (bs r.s), .int .i64 r.n, .slice E r.l.length f] 25)).alloc (.cells #[.int .i64 r.k, .string (bs r.s), .int .i64 r.n, .slice E r.l.length f] 25)
            have HB12 := Lib.hid ((hB9'.alloc (.cells #[.int .i64 r.k, .string (bs r.s), .int .i64 r.n, .slice E r.l.length f] 25)).alloc (.cells #[.int .i64 r.k, .string (bs r.s), .int .i64 r.n, .slice E r.l.length f] 25))
            have HB62 := Lib.hid ((hB6'.alloc (.cells #[.int .i64 r.k, .string (bs r.s), .int .i64 r.n, .slice E r.l.length f] 25)).alloc (.cells #[.int .i64 r.k, .string (bs r.s), .int .i64 r.n, .slice E r.l.length f] 25))
            have hbe : Below w1.heap.size w1 ((w1.alloc (.cells #[.int .i64 r.k, .string (bs r.s), .int .i64 r.n, .slice E r.l.length f] 25)).alloc (.cells #[.int .i64 r.k, .string (bs r.s), .int .i64 r.n, .slice E r.l.length f] 25)) := ((Below.refl _ _).alloc (Nat.le_refl _) _).alloc (by simp) _
            have Hbe := Lib.hid hbe
            have hlit : Own ((w1.alloc (.cells #[.int .i64 r.k, .string (bs r.s), .int .i64 r.n, .slice E r.l.length f] 25)).alloc (.cells #[.int .i64 r.k, .string (bs r.s), .int .i64 r.n, .slice E r.l.length f] 25)) (w.heap.size + 3) 25 4 (.slice (some ⟨w1.heap.size + 1, 0, none⟩) 1 1) 1 [.int .i64 r.k, .string (bs r.s), .int .i64 r.n, .slice E r.l.length f] := by
              have hl := Own.lit (base := w.heap.size + 3) (e := 25) (size := 4) (w1.alloc (.cells #[.int .i64 r.k, .string (bs r.s), .int .i64 r.n, .slice E r.l.length f] 25)) #[.int .i64 r.k, .string (bs r.s), .int .i64 r.n, .slice E r.l.length f] 1 hb3' (by decide) rfl
              rwa [alloc_size17] at hl
            have hone : ∀ v ∈ ([.int .i64 r.k, .string (bs r.s), .int .i64 r.n, .slice E r.l.length f] : List Value), v.oneCell' = true := by
              intro v hv; simp at hv; rcases hv with rfl | rfl | rfl | rfl <;> rfl
            clear hbe hB6' hB9'
            go_wp2_with (first
              | (at_builtin; refine wpList_append_Own _ rfl (.tmp 64) (.tmp 66) _ _ rfl (w.heap.size + 3) 25 i0 _ 4 56 Try.underlying23 hi hz0 hz1 hz2 rfl (.slice Av N cv) N xs rfl hown2 _ 1 [.int .i64 r.k, .string (bs r.s), .int .i64 r.n, .slice E r.l.length f] rfl (Src.own hlit Try.underlying23 hone (by decide)) (by unfold maxLen; omega) (by omega) (by simp; omega) ?_; intro v4 w4 hO4 hg4 hat; obtain ⟨A4, c4, rfl⟩ := hO4.sliceForm; have hB13 := HB12.out.grown hg4 (fun e => by have := hgo _ e.symm; omega); have j3 := hB13.cell 3; have z3 := hB13.frozen 3))
            have hrl4 := RLs.push hsz hown hrl hb1 hrv Hbe.out hg4 (by simpa using hat)
            have hO5 : OR (w4.setCell ⟨w.heap.size + 2, 3, none⟩ (.slice A4 (N + 1) c4)) (w.heap.size + 3) (.slice A4 (N + 1) c4) (acc ++ [r]) := by
              have h4 : OR w4 (w.heap.size + 3) (.slice A4 (N + 1) c4) (acc ++ [r]) := ⟨xs ++ [.int .i64 r.k, .string (bs r.s), .int .i64 r.n, .slice E r.l.length f], by rw [List.length_append, HN.out]; exact hO4, hrl4⟩
              exact h4.far (by omega) 3 _
            have hB65 : Blk (w4.setCell ⟨w.heap.size + 2, 3, none⟩ (.slice A4 (N + 1) c4)) w.heap.size 25 #[.int .i64 0, .string ⟨#[]⟩, .int .i64 0, .slice none 0 0] := (HB62.out.grown hg4 (fun e => by have := hgo _ e.symm; omega)).far (by simp) _
            have hB95 : Blk (w4.setCell ⟨w.heap.size + 2, 3, none⟩ (.slice A4 (N + 1) c4)) (w.heap.size + 2) 25 #[.int .i64 kd, sv S, .int .i64 NN, .slice A4 (N + 1) c4] := hB13.set_ 3 _
            have hbf : Below w.heap.size w (w4.setCell ⟨w.heap.size + 2, 3, none⟩ (.slice A4 (N + 1) c4)) :=
              below_set (((hbel.trans (hb1.mono hbel.size)).trans (Hbe.out.mono (Nat.le_trans hbel.size hb1.size))).grown hg4 (by have := Hbe.out.size; omega) (fun k hk => by have := hgo k hk; omega)) (by omega) 3 _
            have hszf : w.heap.size + 3 ≤ (w4.setCell ⟨w.heap.size + 2, 3, none⟩ (.slice A4 (N + 1) c4)).heap.size := by
              rw [World.size_setCell]; have := hg4.size; simp at this; omega
            have hacc' : ∀ x ∈ acc ++ [r], okM e0 x := by
              intro x hx
              rcases List.mem_append.1 hx with h | h
              · exact HA.out x h
              · rw [List.mem_singleton.1 h]; exact hokr
            have hla : i + (acc ++ [r]).length ≤ 4 := by rw [List.length_append, HN.out, List.length_singleton]; omega
            have HH := Lib.hid (And.intro hla (And.intro hq' (And.intro hB65 (And.intro hB95 (And.intro hO5 (And.intro hacc' (And.intro hbf hszf)))))))
            clear hla hB65 hB95 hO5 hacc' hbf hszf hrl4
            go_roundw
            case rel =>
              first
                | exact ⟨i, q', acc ++ [r], _, by go_num, rfl, HH.out.1, HH.out.2.1, HH.out.2.2.1, HH.out.2.2.2.1, HH.out.2.2.2.2.1, HH.out.2.2.2.2.2.1, HH.out.2.2.2.2.2.2.1, HH.out.2.2.2.2.2.2.2⟩
                | ((repeat apply Exists.intro); exact ⟨⟨i, q', acc ++ [r], _, by go_num, rfl, HH.out.1, HH.out.2.1, HH.out.2.2.1, HH.out.2.2.2.1, HH.out.2.2.2.2.1, HH.out.2.2.2.2.2.1, HH.out.2.2.2.2.2.2.1, HH.out.2.2.2.2.2.2.2⟩, rfl⟩)
            case measure => simp [nOf]

theorem made_any : ∀ d, d ≤ 6 → MadeAt d
  | 0, hd => by
    intro w v m p hv hp
    rcases Nat.lt_or_ge p m with h | h
    · exact made_zero w v m p hv h
    · exact made_end 0 hd w v m p hv (by omega)
  | d + 1, hd => by
    intro w v m p hv hp
    rcases Nat.lt_or_ge p m with h | h
    · exact made_succ d (by omega) (made_any d (by omega)) w v m p hv h
    · exact made_end (d + 1) hd w v m p hv (by omega)
end Go.Proofs.Ytjefpnhffdeekaa

