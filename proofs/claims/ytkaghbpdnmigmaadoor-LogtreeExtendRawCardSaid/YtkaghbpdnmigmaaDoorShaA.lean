/- Rotations: sha256.right and the reference's turn. -/
import Derived.Test.YtkaghbpdnmigmaaDoorProg
import Derived.Test.YtkaghbpdnmigmaaDoorShaP
import Derived.Test.YtkaghbpdnmigmaaDoorApp
import Derived.Test.YtkaghbpdnmigmaaDoorRegion
namespace Go.Proofs.YtkaghbpdnmigmaaDoor
open Go.RowKit

theorem ret_int {k : IntKind} {a b : Int} (h : a = b) : Ending.returned (.int k a) = .returned (.int k b) := by rw [h]

theorem rotr_or (n x : Nat) (hx : x < 4294967296) : bits .or .u32 ((x : Int) / 2 ^ n) ((x : Int) * 2 ^ (32 - n) % 4294967296) = ((rotr n x : Nat) : Int) := by
  have e1 : (x : Int) / 2 ^ n = ((x / 2 ^ n : Nat) : Int) := by
    rw [Int.natCast_ediv]
    simp
  have e2 : (x : Int) * 2 ^ (32 - n) % 4294967296 = ((x * 2 ^ (32 - n) % 4294967296 : Nat) : Int) := by
    rw [Int.natCast_emod]
    simp
  rw [e1, e2, u32_or_nat _ _ (Nat.lt_of_le_of_lt (Nat.div_le_self _ _) hx) (Nat.mod_lt _ (by omega))]
  rfl

theorem rotr_or' (n m x : Nat) (hm : m + n = 32) (hx : x < 4294967296) : bits .or .u32 ((x : Int) * 2 ^ m % 4294967296) ((x : Int) / 2 ^ (32 - m)) = ((rotr n x : Nat) : Int) := by
  obtain rfl : n = 32 - m := by omega
  have e1 : (x : Int) / 2 ^ (32 - m) = ((x / 2 ^ (32 - m) : Nat) : Int) := by
    rw [Int.natCast_ediv]
    simp
  have e2 : (x : Int) * 2 ^ m % 4294967296 = ((x * 2 ^ m % 4294967296 : Nat) : Int) := by
    rw [Int.natCast_emod]
    simp
  rw [e1, e2, u32_or_nat _ _ (Nat.mod_lt _ (by omega)) (Nat.lt_of_le_of_lt (Nat.div_le_self _ _) hx), Nat.or_comm]
  unfold rotr
  rw [show 32 - (32 - m) = m by omega]

theorem neg_and31 (n : Nat) (h1 : 1 ≤ n) (h2 : n ≤ 31) : bits .and .u64 (IntKind.u64.wrap (-(n : Int))) 31 = ((32 - n : Nat) : Int) := by
  have e : IntKind.u64.wrap (-(n : Int)) = ((18446744073709551616 - n : Nat) : Int) := by
    simp only [IntKind.wrap, IntKind.bits, IntKind.signed]
    simp
    omega
  rw [e]
  have := u64_and_nat (18446744073709551616 - n) 31 (by omega) (by omega)
  rw [nat_mask5] at this
  refine this.trans ?_
  congr 1
  omega

set_option maxHeartbeats 400000 in
theorem turn_any (n x : Nat) (w : World) (h1 : 1 ≤ n) (h2 : n ≤ 31) (hx : x < 4294967296) :
    Calls Tryd.prog 79 #[.int .i64 n, .int .u32 x] w fun e w' => e = .returned (.int .u32 (rotr n x : Nat)) ∧ ∃ k, w' = w.drewN k := by
  have a1 : (0 : Int) ≤ (n : Int) := by omega
  have a2 : (0 : Int) ≤ 32 - (n : Int) := by omega
  have a3 : IntKind.i64.wrap (32 - (n : Int)) = 32 - (n : Int) := IntWalk.i64_in _ (by omega)
  go_enter Tryd.func79, Tryd.ntmps79
  go_wp2
  go_quiet (fail)
  go_wp2
  go_ret
  exact ⟨ret_int (rotr_or n x hx), nq, rfl⟩

set_option maxHeartbeats 400000 in
theorem rotl_any (n x : Nat) (w : World) (h1 : 1 ≤ n) (h2 : n ≤ 31) (hx : x < 4294967296) :
    Calls Tryd.prog 90 #[.int .u32 x, .int .i64 (-(n : Int))] w fun e w' => e = .returned (.int .u32 (rotr n x : Nat)) ∧ w = w' := by
  have hand := neg_and31 n h1 h2
  have hm : 32 - n + n = 32 := by omega
  have hm2 : 32 - n ≤ 31 := by omega
  generalize 32 - n = m at hand hm hm2
  have HM := Lib.hid hm
  clear hm h1 h2
  go_enter Tryd.func90, Tryd.ntmps90
  go_wp2
  go_ret
  exact ⟨ret_int (rotr_or' n m x HM.out hx), rfl⟩

set_option maxHeartbeats 400000 in
theorem right_any (n x : Nat) (w : World) (h1 : 1 ≤ n) (h2 : n ≤ 31) (hx : x < 4294967296) :
    Calls Tryd.prog 89 #[.int .i64 n, .int .u32 x] w fun e w' => e = .returned (.int .u32 (rotr n x : Nat)) ∧ w = w' := by
  go_enter Tryd.func89, Tryd.ntmps89
  go_wp2_with fail
  refine (rotl_any n x _ h1 h2 hx).mono ?_
  rintro e w1 ⟨rfl, rfl⟩
  go_wp2
  go_ret
  exact ⟨rfl, rfl⟩
end Go.Proofs.YtkaghbpdnmigmaaDoor
