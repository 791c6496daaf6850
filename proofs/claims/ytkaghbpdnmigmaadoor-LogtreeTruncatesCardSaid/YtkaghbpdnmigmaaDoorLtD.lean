/- logtree: the size of the left part, on both sides. -/
import Derived.Test.YtkaghbpdnmigmaaDoorLtC
import Derived.Test.YtkaghbpdnmigmaaDoorShelf
import Derived.Lib.ItoaNum
namespace Go.Proofs.YtkaghbpdnmigmaaDoor
open Go.RowKit

/-- The greatest power of 2 that is less than n, for n from 2 on. -/
def leftN (n : Nat) : Nat := 2 ^ (Lib.bitLen (n - 1) - 1)
theorem leftN_bounds (n : Nat) (h : 2 ≤ n) (hn : n ≤ 1099511627776) : leftN n < n ∧ n ≤ 2 * leftN n ∧ 1 ≤ leftN n := by
  obtain ⟨h1, h2, h3⟩ := Lib.bitLenAux_bounds 64 (n - 1) (by omega) (by omega)
  obtain ⟨m, hm⟩ : ∃ m, Lib.bitLen (n - 1) = m + 1 := ⟨Lib.bitLenAux 64 (n - 1) - 1, by unfold Lib.bitLen; omega⟩
  have hm' : Lib.bitLenAux 64 (n - 1) = m + 1 := hm
  unfold leftN
  rw [hm'] at h1 h2 h3
  rw [hm]
  rw [Nat.pow_succ] at h3
  have : 1 ≤ 2 ^ m := Nat.one_le_two_pow
  simp only [Nat.add_sub_cancel] at h2 ⊢
  omega
theorem pow_one (n i j : Nat) (h1 : 2 ^ i < n) (h2 : n ≤ 2 * 2 ^ i) (h3 : 2 ^ j < n) (h4 : n ≤ 2 * 2 ^ j) : 2 ^ i = 2 ^ j := by
  rcases Nat.lt_trichotomy i j with h | h | h
  · have : 2 ^ (i + 1) ≤ 2 ^ j := Nat.pow_le_pow_right (by omega) h
    rw [Nat.pow_succ] at this
    omega
  · rw [h]
  · have : 2 ^ (j + 1) ≤ 2 ^ i := Nat.pow_le_pow_right (by omega) h
    rw [Nat.pow_succ] at this
    omega
theorem leftN_of (n j : Nat) (hn : n ≤ 1099511627776) (h1 : 2 ^ j < n) (h2 : n ≤ 2 * 2 ^ j) : 2 ^ j = leftN n := by
  have : 1 ≤ 2 ^ j := Nat.one_le_two_pow
  obtain ⟨a, b, c⟩ := leftN_bounds n (by omega) hn
  exact pow_one n j _ h1 h2 a b

set_option maxRecDepth 100000 in
set_option maxHeartbeats 1000000 in
theorem leftSize_any (n : Nat) (w : World) (h2 : 2 ≤ n) (hn : n ≤ 1099511627776) : Calls Tryd.prog 72 #[.int .i64 n] w fun e w' => e = .returned (.int .i64 (leftN n : Nat)) ∧ w = w' := by
  obtain ⟨a, b, c⟩ := leftN_bounds n h2 hn
  obtain ⟨m, hm⟩ : ∃ m, m = n - 1 := ⟨_, rfl⟩
  have hb1 : 1 ≤ Lib.bitLen m := (Lib.bitLenAux_bounds 64 m (by omega) (by omega)).1
  have hb2 : Lib.bitLen m ≤ 64 := Lib.bitLen_le m 64 (by omega) (by omega)
  have HL : Hid (leftN n = 2 ^ (Lib.bitLen m - 1)) := by rw [hm]; rfl
  obtain ⟨x, hx⟩ : ∃ x, x = Lib.bitLen m - 1 := ⟨_, rfl⟩
  rw [← hx] at HL
  have hxI : ((Lib.bitLen m : Nat) : Int) - 1 = (x : Int) := by omega
  have hx63 : (x : Int) ≤ 64 := by omega
  have hmI : (n : Int) - 1 = (m : Int) := by omega
  have CB : Hid (∀ w, Calls Tryd.prog 80 #[.int .u64 (m : Int)] w fun e w' => e = .returned (.int .i64 (Lib.bitLen m : Nat)) ∧ w' = w) := fun w => Tryd.bits_Len (m : Int) w (by omega) (by omega)
  have hpw : IntKind.i64.wrap (1 * 2 ^ x) = ((leftN n : Nat) : Int) := by
    rw [HL.out, Int.one_mul]
    have : (2 : Int) ^ x = ((2 ^ x : Nat) : Int) := by simp
    rw [this]
    refine IntWalk.i64_in _ ?_
    rw [← HL.out]
    omega
  have hpw2 : IntKind.i64.wrap (2 ^ x) = ((leftN n : Nat) : Int) := by rw [← hpw, Int.one_mul]
  clear hx a b c
  generalize Lib.bitLen m = B at *
  generalize leftN n = LN at *
  have HM := Lib.hid hm
  clear hm
  go_enter Tryd.func72, Tryd.ntmps72
  go_wp2_with fail
  refine (CB.out _).mono ?_
  rintro e w' ⟨rfl, rfl⟩
  go_wp2
  go_ret
  exact ⟨rfl, rfl⟩

set_option maxRecDepth 100000 in
set_option maxHeartbeats 1000000 in
theorem Left_any (n : Nat) (w : World) (h2 : 2 ≤ n) (hn : n ≤ 1099511627776) : Calls Tryd.prog 48 #[.int .i64 n] w fun e w' => e = .returned (.int .i64 (leftN n : Nat)) ∧ w = w' := by
  go_enter Tryd.func48, Tryd.ntmps48
  go_wp2
  go_loop [3] (fun v => ∃ j k : Nat, v = .int .i64 k ∧ Hid (k = 2 ^ j) ∧ k < n ∧ 1 ≤ k) (fun v => n - (intOf v).toNat)
  case atStart => exact ⟨0, 1, rfl, rfl, by omega, by omega⟩
  case round =>
    obtain ⟨j, k, rfl, HK, hk, hk1⟩ := hrel
    by_cases hlt : 2 * k < n
    · have hd : (2 : Int) * (k : Int) < (n : Int) := by omega
      go_wp2
      go_round
      case rel => exact ⟨j + 1, 2 * k, by go_num, by rw [HK.out]; exact (Nat.pow_succ'.symm), hlt, by omega⟩
      case measure => simp [intOf]; omega
    · have hd : decide ((2 : Int) * (k : Int) < (n : Int)) = false := decide_eq_false (by omega)
      have HE : Hid (k = leftN n) := by rw [HK.out]; exact leftN_of n j hn (by rw [← HK.out]; exact hk) (by rw [← HK.out]; omega)
      go_wp2
      go_ret
      exact ⟨congrArg (fun x : Nat => Ending.returned (.int .i64 (x : Int))) HE.out, rfl⟩
end Go.Proofs.YtkaghbpdnmigmaaDoor
