/- Images, plainly; pages, places, Check of both sides. -/
import Derived.Test.YtfdcmjjafngonaaDoorCodecP
namespace Go.Proofs.YtfdcmjjafngonaaDoor
open Go.RowKit

/-- The next multiple of 64. -/
def upN (n : Nat) : Nat := (n + 63) / 64 * 64
def checkI (c d : Nat) (z e : Int) : Int :=
  if c = 0 then 1 else if c % 4 ≠ 0 then 3 else if z < 0 ∨ 4096 < z then 2 else if 4096 < (upN c : Int) + d + z then 5 else if e < 0 ∨ e % 4 ≠ 0 ∨ (c : Int) - 4 < e then 2 else 0
theorem checkI_ok {c d : Nat} {z e : Int} (h : checkI c d z e = 0) : 4 ≤ c ∧ c % 4 = 0 ∧ 0 ≤ z ∧ z ≤ 4096 ∧ (upN c : Int) + d + z ≤ 4096 ∧ 0 ≤ e ∧ e % 4 = 0 ∧ e ≤ (c : Int) - 4 := by
  unfold checkI at h
  by_cases h1 : c = 0
  · rw [if_pos h1] at h; cases h
  rw [if_neg h1] at h
  by_cases h2 : c % 4 ≠ 0
  · rw [if_pos h2] at h; cases h
  rw [if_neg h2] at h
  by_cases h3 : z < 0 ∨ 4096 < z
  · rw [if_pos h3] at h; cases h
  rw [if_neg h3] at h
  by_cases h4 : 4096 < (upN c : Int) + d + z
  · rw [if_pos h4] at h; cases h
  rw [if_neg h4] at h
  by_cases h5 : e < 0 ∨ e % 4 ≠ 0 ∨ (c : Int) - 4 < e
  · rw [if_pos h5] at h; cases h
  omega
theorem upN_le (n : Nat) : n ≤ upN n ∧ upN n ≤ n + 63 := by unfold upN; omega

abbrev imgC (c d : ByteArray) (z e : Int) : Array Value := #[.string c, .string d, .int .i64 z, .int .i64 e]
abbrev imgV (c d : ByteArray) (z e : Int) : Value := .agg (imgC c d z e)
def SameIn (w : World) (v : Value) (e : Ending) (w' : World) : Prop := e = .returned v ∧ Fr Nothing w w'

set_option maxRecDepth 100000 in
theorem pagesOf_any (n : Nat) (w : World) (hn : n ≤ 1099511627776) : Calls Tryd.prog 33 #[.int .i64 n] w fun e w' => e = .returned (.int .i64 ((n + 63) / 64 : Nat)) ∧ w = w' := by
  have s1 : (n : Int) + 64 = ((n + 64 : Nat) : Int) := by omega
  have s2 : ((n + 64 : Nat) : Int) - 1 = ((n + 63 : Nat) : Int) := by omega
  have s3 : ((n + 63 : Nat) : Int).tdiv 64 = (((n + 63) / 64 : Nat) : Int) := by rw [Int.tdiv_eq_ediv_of_nonneg (by omega)]; omega
  have s4 : ((n + 63 : Nat) : Int) / 64 = (((n + 63) / 64 : Nat) : Int) := by omega
  have b1 : n + 64 ≤ 1099511627840 := by omega
  have b2 : n + 63 ≤ 1099511627840 := by omega
  have b3 : (n + 63) / 64 ≤ 1099511627840 := by omega
  generalize (n + 63) / 64 = q at *
  generalize n + 63 = m at *
  generalize n + 64 = k at *
  go_enter Tryd.func33, Tryd.ntmps33
  go_wp2
  go_ret
  exact ⟨rfl, rfl⟩

set_option maxRecDepth 100000 in
theorem up_any (n : Nat) (w : World) (hn : n ≤ 1099511627776) : Calls Tryd.prog 32 #[.int .i64 n] w fun e w' => e = .returned (.int .i64 (upN n : Nat)) ∧ w = w' := by
  unfold upN
  have s2 : (n : Int) + 63 = ((n + 63 : Nat) : Int) := by omega
  have s3 : ((n + 63 : Nat) : Int).tdiv 64 = (((n + 63) / 64 : Nat) : Int) := by rw [Int.tdiv_eq_ediv_of_nonneg (by omega)]; omega
  have s4 : ((n + 63 : Nat) : Int) / 64 = (((n + 63) / 64 : Nat) : Int) := by omega
  have s5 : (((n + 63) / 64 : Nat) : Int) * 64 = (((n + 63) / 64 * 64 : Nat) : Int) := by omega
  have b2 : n + 63 ≤ 1099511627840 := by omega
  have b3 : (n + 63) / 64 ≤ 1099511627840 := by omega
  have b4 : (n + 63) / 64 * 64 ≤ 1099511627840 := by omega
  generalize (n + 63) / 64 * 64 = r at *
  generalize (n + 63) / 64 = q at *
  generalize n + 63 = m at *
  go_enter Tryd.func32, Tryd.ntmps32
  go_wp2
  go_ret
  exact ⟨rfl, rfl⟩

set_option maxRecDepth 100000 in
theorem dataAt_any (c d : ByteArray) (z e : Int) (w : World) (hn : c.size ≤ 1099511627776) : Calls Tryd.prog 31 #[imgV c d z e] w (SameIn w (.int .i64 (upN c.size : Nat))) := by
  unfold upN
  have CP := Lib.hid (fun w => pagesOf_any c.size w hn)
  have s5 : (((c.size + 63) / 64 : Nat) : Int) * 64 = (((c.size + 63) / 64 * 64 : Nat) : Int) := by omega
  have b3 : (c.size + 63) / 64 ≤ 1099511627840 := by omega
  have b4 : (c.size + 63) / 64 * 64 ≤ 1099511627840 := by omega
  generalize (c.size + 63) / 64 * 64 = r at *
  generalize (c.size + 63) / 64 = q at *
  go_enter Tryd.func31, Tryd.ntmps31
  go_wp2_with fail
  refine (CP.out _).mono ?_
  rintro e w1 ⟨rfl, rfl⟩
  go_wp2
  go_ret
  exact ⟨rfl, (Fr.refl _ _).alloc _⟩
end Go.Proofs.YtfdcmjjafngonaaDoor
