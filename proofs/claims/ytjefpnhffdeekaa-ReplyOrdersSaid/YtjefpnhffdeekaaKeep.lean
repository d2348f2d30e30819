/- The walks of the statements' own helpers: Within, Cut. -/
import Derived.Test.YtjefpnhffdeekaaBase
namespace Go.Proofs.Ytjefpnhffdeekaa
open Go.RowKit
set_option linter.unusedVariables false

/-- A number brought into lo .. hi. -/
def within (n lo hi : Int) : Int := lo + n % (hi - lo + 1)
theorem within_bd (n lo hi : Int) (h : lo ≤ hi) : lo ≤ within n lo hi ∧ within n lo hi ≤ hi := by
  unfold within
  have h1 := Int.emod_nonneg n (show hi - lo + 1 ≠ 0 by omega)
  have h2 := Int.emod_lt_of_pos n (show 0 < hi - lo + 1 by omega)
  omega
theorem tmod_facts (n m : Int) (hm : 0 < m) : -m < n.tmod m ∧ n.tmod m < m ∧ (n.tmod m < 0 → n % m = n.tmod m + m) ∧ (0 ≤ n.tmod m → n % m = n.tmod m) := by
  have h1 : n.tmod m < m := Int.tmod_lt_of_pos n hm
  have h0 := Int.tmod_add_mul_tdiv n m
  have h2 : -m < n.tmod m := by
    have := Int.lt_tmod_of_pos n hm
    omega
  refine ⟨h2, h1, fun h => ?_, fun h => ?_⟩
  · have e : n % m = (n.tmod m + m) % m := by
      conv => lhs; rw [← h0]
      rw [Int.add_mul_emod_self_left]
      rw [Int.add_emod_right]
    rw [e]; exact Int.emod_eq_of_lt (by omega) (by omega)
  · have e : n % m = (n.tmod m) % m := by
      conv => lhs; rw [← h0]
      rw [Int.add_mul_emod_self_left]
    rw [e]; exact Int.emod_eq_of_lt (by omega) (by omega)

set_option maxHeartbeats 400000 in
theorem within_any (n lo hi : Int) (w : World) (h1 : -9223372036854775808 ≤ n) (h2 : n ≤ 9223372036854775807) (hlo : -4294967296 ≤ lo) (hle : lo ≤ hi) (hhi : hi ≤ 4294967296) :
    Calls Try.prog 11 #[.int .i64 n, .int .i64 lo, .int .i64 hi] w fun e w' => e = .returned (.int .i64 (within n lo hi)) ∧ w = w' := by
  obtain ⟨t1, t2, t3, t4⟩ := tmod_facts n (hi - lo + 1) (by omega)
  have T3 := Lib.hid t3
  have T4 := Lib.hid t4
  clear t3 t4
  by_cases h : n.tmod (hi - lo + 1) < 0
  · have hr := Lib.hid (T3.out h)
    go_enter Try.func11, Try.ntmps11
    go_wp2
    go_ret
    exact ⟨ret_int (by unfold within; rw [hr.out]; omega), rfl⟩
  · have hr := Lib.hid (T4.out (by omega))
    go_enter Try.func11, Try.ntmps11
    go_wp2
    go_ret
    exact ⟨ret_int (by unfold within; rw [hr.out]), rfl⟩

theorem within_ex (n lo hi : Int) (w : World) (hn : -9223372036854775808 ≤ n ∧ n ≤ 9223372036854775807) (hlo : -4294967296 ≤ lo) (hle : lo ≤ hi) (hhi : hi ≤ 4294967296) :
    Calls Try.prog 11 #[.int .i64 n, .int .i64 lo, .int .i64 hi] w fun e w' => ∃ z : Int, lo ≤ z ∧ z ≤ hi ∧ e = .returned (.int .i64 z) ∧ w = w' :=
  (within_any n lo hi w hn.1 hn.2 hlo hle hhi).mono fun e w' ⟨he, hw⟩ => ⟨within n lo hi, (within_bd n lo hi hle).1, (within_bd n lo hi hle).2, he, hw⟩
theorem within_nat (n hi : Int) (w : World) (hn : -9223372036854775808 ≤ n ∧ n ≤ 9223372036854775807) (hle : 0 ≤ hi) (hhi : hi ≤ 4294967296) :
    Calls Try.prog 11 #[.int .i64 n, .int .i64 0, .int .i64 hi] w fun e w' => ∃ z : Nat, (z : Int) ≤ hi ∧ e = .returned (.int .i64 z) ∧ w = w' :=
  (within_ex n 0 hi w hn (by omega) hle hhi).mono fun e w' ⟨z, h1, h2, he, hw⟩ => ⟨z.toNat, by omega, by rw [he, Int.toNat_of_nonneg h1], hw⟩

set_option maxHeartbeats 400000 in
theorem cut_any (s : ByteArray) (n : Nat) (w : World) (hs : s.size ≤ maxLen) (hn : n ≤ 4294967296) :
    Calls Try.prog 10 #[.string s, .int .i64 n] w fun e w' => e = .returned (sv (s.data.toList.take n)) ∧ w = w' := by
  unfold maxLen at hs
  have hsz : s.data.toList.length = s.size := by rw [Array.length_toList]; rfl
  by_cases h : n < s.size
  · have he : s.extract 0 n = bs (s.data.toList.take n) := by
      rw [bs_extract, List.drop_zero, Nat.sub_zero]
    have He := Lib.hid he
    clear he hsz
    go_enter Try.func10, Try.ntmps10
    go_wp2
    go_ret
    exact ⟨str_ret He.out, rfl⟩
  · have he : s = bs (s.data.toList.take n) := by rw [List.take_of_length_le (by omega), bs_eta]
    have He := Lib.hid he
    clear he hsz
    go_enter Try.func10, Try.ntmps10
    go_wp2
    go_ret
    exact ⟨str_ret He.out, rfl⟩
end Go.Proofs.Ytjefpnhffdeekaa
