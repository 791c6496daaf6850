/- The reference's extended (written after XLtQ by program). -/
import Derived.Test.YtkaghbpdnmigmaaDoorLtQ
namespace Go.Proofs.YtkaghbpdnmigmaaDoor
open Go.RowKit

set_option maxRecDepth 100000 in
theorem extended_eq (m : Nat) (whole : Bool) (w : World) : Calls Tryd.prog 55 #[.int .i64 m, .int .i64 m, .bool whole] w (SameW w (.int .i64 (extLen m m whole : Nat))) := by
  rw [extLen_eq]
  cases whole
  · go_enter Tryd.func55, Tryd.ntmps55
    go_wp2
    go_ret
    exact ⟨rfl, rfl⟩
  · go_enter Tryd.func55, Tryd.ntmps55
    go_wp2
    go_ret
    exact ⟨rfl, rfl⟩

set_option maxRecDepth 100000 in
set_option maxHeartbeats 1000000 in
theorem extended_any (n : Nat) : ∀ (m : Nat) (whole : Bool) (w : World), 1 ≤ m → m ≤ n → n ≤ 1048576 → Calls Tryd.prog 55 #[.int .i64 m, .int .i64 n, .bool whole] w (SameW w (.int .i64 (extLen m n whole : Nat))) := by
  induction n using Nat.strongRecOn with
  | _ n ih =>
    intro m whole w h1 hmn hn
    by_cases e : m = n
    · subst e
      exact extended_eq m whole w
    · obtain ⟨ka, _, kc⟩ := leftN_bounds n (by omega) (by omega)
      have CS := Lib.hid (fun w => Left_any n w (by omega) (by omega))
      have t1 : ((m : Int) == (n : Int)) = false := by rw [beq_eq_false_iff_ne]; omega
      by_cases hm : m ≤ leftN n
      · have hE := extLen_left whole e (by omega) (by omega) hm
        have hle := extLen_le n m whole h1 hmn (by omega)
        have CI := Lib.hid (fun w => ih (leftN n) ka m whole w h1 hm (by omega))
        rw [hE] at hle ⊢
        clear hE ih
        generalize extLen m (leftN n) whole = E at *
        generalize leftN n = k at *
        have t2 : decide ((m : Int) ≤ (k : Int)) = true := decide_eq_true (by omega)
        obtain ⟨E', hE'⟩ : ∃ E' : Nat, E' = E + 1 := ⟨_, rfl⟩
        rw [← hE'] at hle ⊢
        have s1 : 1 + (E : Int) = (E' : Int) := by omega
        clear hE'
        go_enter Tryd.func55, Tryd.ntmps55
        go_wp2_with fail
        refine (CS.out _).mono ?_
        rintro e w1 ⟨rfl, rfl⟩
        go_wp2_with fail
        refine (CI.out _).mono ?_
        rintro e w1 ⟨rfl, rfl⟩
        go_wp2
        go_ret
        exact ⟨rfl, rfl⟩
      · have hE := extLen_right whole e (by omega) (by omega) hm
        have hle := extLen_le n m whole h1 hmn (by omega)
        have CI := Lib.hid (fun w => ih (n - leftN n) (by omega) (m - leftN n) false w (by omega) (by omega) (by omega))
        rw [hE] at hle ⊢
        clear hE ih
        generalize extLen (m - leftN n) (n - leftN n) false = E at *
        generalize leftN n = k at *
        have t2 : decide ((m : Int) ≤ (k : Int)) = false := decide_eq_false (by omega)
        obtain ⟨E', hE'⟩ : ∃ E' : Nat, E' = E + 1 := ⟨_, rfl⟩
        rw [← hE'] at hle ⊢
        have s1 : 1 + (E : Int) = (E' : Int) := by omega
        clear hE'
        obtain ⟨m', hm'⟩ : ∃ m' : Nat, m' = m - k := ⟨_, rfl⟩
        obtain ⟨n', hn'⟩ : ∃ n' : Nat, n' = n - k := ⟨_, rfl⟩
        rw [← hm', ← hn'] at CI
        have s2 : (m : Int) - (k : Int) = (m' : Int) := by omega
        have s3 : (n : Int) - (k : Int) = (n' : Int) := by omega
        have b1 : m' ≤ 1048576 := by omega
        have b2 : n' ≤ 1048576 := by omega
        clear hm' hn'
        go_enter Tryd.func55, Tryd.ntmps55
        go_wp2_with fail
        refine (CS.out _).mono ?_
        rintro e w1 ⟨rfl, rfl⟩
        go_wp2_with fail
        refine (CI.out _).mono ?_
        rintro e w1 ⟨rfl, rfl⟩
        go_wp2
        go_ret
        exact ⟨rfl, rfl⟩
end Go.Proofs.YtkaghbpdnmigmaaDoor
