/- Extension paths, plainly: how long they are, and the two roots. -/
import Derived.Test.YtkaghbpdnmigmaaDoorLtO
namespace Go.Proofs.YtkaghbpdnmigmaaDoor
open Go.RowKit

def extLen (m n : Nat) (whole : Bool) : Nat :=
  if m = n then (if whole = true then 0 else 1)
  else if _h : 1 ≤ leftN n ∧ leftN n < n then
    (if m ≤ leftN n then extLen m (leftN n) whole + 1 else extLen (m - leftN n) (n - leftN n) false + 1)
  else 0
termination_by n
decreasing_by all_goals omega

theorem extLen_eq (m : Nat) (whole : Bool) : extLen m m whole = if whole = true then 0 else 1 := by
  rw [extLen, if_pos rfl]
theorem extLen_left {m n : Nat} (whole : Bool) (hmn : m ≠ n) (h2 : 2 ≤ n) (hn : n ≤ 1099511627776) (hm : m ≤ leftN n) : extLen m n whole = extLen m (leftN n) whole + 1 := by
  obtain ⟨a, _, c⟩ := leftN_bounds n h2 hn
  rw [extLen, if_neg hmn, dif_pos ⟨c, a⟩, if_pos hm]
theorem extLen_right {m n : Nat} (whole : Bool) (hmn : m ≠ n) (h2 : 2 ≤ n) (hn : n ≤ 1099511627776) (hm : ¬ m ≤ leftN n) : extLen m n whole = extLen (m - leftN n) (n - leftN n) false + 1 := by
  obtain ⟨a, _, c⟩ := leftN_bounds n h2 hn
  rw [extLen, if_neg hmn, dif_pos ⟨c, a⟩, if_neg hm]
theorem extLen_le (n : Nat) : ∀ m whole, 1 ≤ m → m ≤ n → n ≤ 1099511627776 → extLen m n whole ≤ n := by
  induction n using Nat.strongRecOn with
  | _ n ih =>
    intro m whole h1 hmn hn
    by_cases e : m = n
    · subst e
      rw [extLen_eq]
      split <;> omega
    · obtain ⟨a, _, c⟩ := leftN_bounds n (by omega) hn
      by_cases hm : m ≤ leftN n
      · rw [extLen_left whole e (by omega) hn hm]
        have := ih (leftN n) a m whole h1 hm (by omega)
        omega
      · rw [extLen_right whole e (by omega) hn hm]
        have := ih (n - leftN n) (by omega) (m - leftN n) false (by omega) (by omega) (by omega)
        omega

def extD (old : List UInt8) (m n : Nat) (whole : Bool) (path : List (List UInt8)) : List UInt8 × List UInt8 :=
  if m = n then (if whole = true then (old, old) else (path.headD [], path.headD []))
  else if _h : 1 ≤ leftN n ∧ leftN n < n then
    (if m ≤ leftN n then ((extD old m (leftN n) whole (path.take (path.length - 1))).1, nodeD (extD old m (leftN n) whole (path.take (path.length - 1))).2 (path.getD (path.length - 1) []))
     else (nodeD (path.getD (path.length - 1) []) (extD old (m - leftN n) (n - leftN n) false (path.take (path.length - 1))).1, nodeD (path.getD (path.length - 1) []) (extD old (m - leftN n) (n - leftN n) false (path.take (path.length - 1))).2))
  else ([], [])
termination_by n
decreasing_by all_goals omega

theorem extD_eq (old : List UInt8) (m : Nat) (whole : Bool) (path : List (List UInt8)) : extD old m m whole path = if whole = true then (old, old) else (path.headD [], path.headD []) := by
  rw [extD, if_pos rfl]
theorem extD_left (old : List UInt8) {m n : Nat} (whole : Bool) (path : List (List UInt8)) {p : Nat} (hp : path.length = p + 1) (hmn : m ≠ n) (h2 : 2 ≤ n) (hn : n ≤ 1099511627776) (hm : m ≤ leftN n) :
    extD old m n whole path = ((extD old m (leftN n) whole (path.take p)).1, nodeD (extD old m (leftN n) whole (path.take p)).2 (path.getD p [])) := by
  obtain ⟨a, _, c⟩ := leftN_bounds n h2 hn
  rw [extD, if_neg hmn, dif_pos ⟨c, a⟩, if_pos hm, hp, Nat.add_sub_cancel]
theorem extD_right (old : List UInt8) {m n : Nat} (whole : Bool) (path : List (List UInt8)) {p : Nat} (hp : path.length = p + 1) (hmn : m ≠ n) (h2 : 2 ≤ n) (hn : n ≤ 1099511627776) (hm : ¬ m ≤ leftN n) :
    extD old m n whole path = (nodeD (path.getD p []) (extD old (m - leftN n) (n - leftN n) false (path.take p)).1, nodeD (path.getD p []) (extD old (m - leftN n) (n - leftN n) false (path.take p)).2) := by
  obtain ⟨a, _, c⟩ := leftN_bounds n h2 hn
  rw [extD, if_neg hmn, dif_pos ⟨c, a⟩, if_neg hm, hp, Nat.add_sub_cancel]
theorem extD_length (n : Nat) : ∀ (old : List UInt8) m whole path, 1 ≤ m → m ≤ n → n ≤ 1099511627776 → old.length = 32 → path.length = extLen m n whole → (∀ d ∈ path, d.length = 32) → (extD old m n whole path).1.length = 32 ∧ (extD old m n whole path).2.length = 32 := by
  induction n using Nat.strongRecOn with
  | _ n ih =>
    intro old m whole path h1 hmn hn ho hl he
    by_cases e : m = n
    · subst e
      rw [extD_eq]
      rw [extLen_eq] at hl
      cases whole
      · match path, hl, he with
        | [x], _, he => exact ⟨he x (by simp), he x (by simp)⟩
        | [], hl, _ => simp at hl
        | _ :: _ :: _, hl, _ => simp at hl
      · exact ⟨ho, ho⟩
    · obtain ⟨a, _, c⟩ := leftN_bounds n (by omega) hn
      by_cases hm : m ≤ leftN n
      · rw [extLen_left whole e (by omega) hn hm] at hl
        rw [extD_left old whole path hl e (by omega) hn hm]
        have := ih (leftN n) a old m whole (path.take (extLen m (leftN n) whole)) h1 hm (by omega) ho (by rw [List.length_take, hl]; omega) (fun d hd => he d (List.mem_of_mem_take hd))
        exact ⟨this.1, nodeD_length _ _⟩
      · rw [extLen_right whole e (by omega) hn hm] at hl
        rw [extD_right old whole path hl e (by omega) hn hm]
        exact ⟨nodeD_length _ _, nodeD_length _ _⟩

def SameW (w : World) (v : Value) (e : Ending) (w' : World) : Prop := e = .returned v ∧ w = w'

set_option maxRecDepth 100000 in
theorem extensionLength_zero (n : Int) (whole : Bool) (w : World) : Calls Tryd.prog 53 #[.int .i64 0, .int .i64 n, .bool whole] w (SameW w (.int .i64 0)) := by
  go_enter Tryd.func53, Tryd.ntmps53
  go_wp2
  go_ret
  exact ⟨rfl, rfl⟩
set_option maxRecDepth 100000 in
theorem extensionLength_eq (m : Nat) (h1 : 1 ≤ m) (whole : Bool) (w : World) : Calls Tryd.prog 53 #[.int .i64 m, .int .i64 m, .bool whole] w (SameW w (.int .i64 (extLen m m whole : Nat))) := by
  rw [extLen_eq]
  have t0 : ((m : Int) == 0) = false := by rw [beq_eq_false_iff_ne]; omega
  cases whole
  · go_enter Tryd.func53, Tryd.ntmps53
    go_wp2
    go_ret
    exact ⟨rfl, rfl⟩
  · go_enter Tryd.func53, Tryd.ntmps53
    go_wp2
    go_ret
    exact ⟨rfl, rfl⟩

set_option maxRecDepth 100000 in
set_option maxHeartbeats 1000000 in
theorem extensionLength_any (n : Nat) : ∀ (m : Nat) (whole : Bool) (w : World), 1 ≤ m → m ≤ n → n ≤ 1048576 → Calls Tryd.prog 53 #[.int .i64 m, .int .i64 n, .bool whole] w (SameW w (.int .i64 (extLen m n whole : Nat))) := by
  induction n using Nat.strongRecOn with
  | _ n ih =>
    intro m whole w h1 hmn hn
    by_cases e : m = n
    · subst e
      exact extensionLength_eq m h1 whole w
    · obtain ⟨ka, _, kc⟩ := leftN_bounds n (by omega) (by omega)
      have CS := Lib.hid (fun w => leftSize_any n w (by omega) (by omega))
      have t0 : ((m : Int) == 0) = false := by rw [beq_eq_false_iff_ne]; omega
      have t1 : ((m : Int) == (n : Int)) = false := by rw [beq_eq_false_iff_ne]; omega
      by_cases hm : m ≤ leftN n
      · have hE := extLen_left whole e (by omega) (by omega) hm
        have hle := extLen_le n m whole h1 hmn (by omega)
        have CI := Lib.hid (fun w => ih (leftN n) ka m whole w h1 hm (by omega))
        rw [hE] at hle ⊢
        clear hE ih
        generalize extLen m (leftN n) whole = E at *
        generalize leftN n = k at *
        have t2 : decide ((m : Int) ≤ (k : Int)) = true := decide_eq_true (by omega)
        obtain ⟨E', hE'⟩ : ∃ E' : Nat, E' = E + 1 := ⟨_, rfl⟩
        rw [← hE'] at hle ⊢
        have s1 : (E : Int) + 1 = (E' : Int) := by omega
        clear hE'
        go_enter Tryd.func53, Tryd.ntmps53
        go_wp2_with fail
        refine (CS.out _).mono ?_
        rintro e w1 ⟨rfl, rfl⟩
        go_wp2_with fail
        refine (CI.out _).mono ?_
        rintro e w1 ⟨rfl, rfl⟩
        go_wp2
        go_ret
        exact ⟨rfl, rfl⟩
      · have hE := extLen_right whole e (by omega) (by omega) hm
        have hle := extLen_le n m whole h1 hmn (by omega)
        have CI := Lib.hid (fun w => ih (n - leftN n) (by omega) (m - leftN n) false w (by omega) (by omega) (by omega))
        rw [hE] at hle ⊢
        clear hE ih
        generalize extLen (m - leftN n) (n - leftN n) false = E at *
        generalize leftN n = k at *
        have t2 : decide ((m : Int) ≤ (k : Int)) = false := decide_eq_false (by omega)
        obtain ⟨E', hE'⟩ : ∃ E' : Nat, E' = E + 1 := ⟨_, rfl⟩
        rw [← hE'] at hle ⊢
        have s1 : (E : Int) + 1 = (E' : Int) := by omega
        clear hE'
        obtain ⟨m', hm'⟩ : ∃ m' : Nat, m' = m - k := ⟨_, rfl⟩
        obtain ⟨n', hn'⟩ : ∃ n' : Nat, n' = n - k := ⟨_, rfl⟩
        rw [← hm', ← hn'] at CI
        have s2 : (m : Int) - (k : Int) = (m' : Int) := by omega
        have s3 : (n : Int) - (k : Int) = (n' : Int) := by omega
        have b1 : m' ≤ 1048576 := by omega
        have b2 : n' ≤ 1048576 := by omega
        clear hm' hn'
        go_enter Tryd.func53, Tryd.ntmps53
        go_wp2_with fail
        refine (CS.out _).mono ?_
        rintro e w1 ⟨rfl, rfl⟩
        go_wp2_with fail
        refine (CI.out _).mono ?_
        rintro e w1 ⟨rfl, rfl⟩
        go_wp2
        go_ret
        exact ⟨rfl, rfl⟩
end Go.Proofs.YtkaghbpdnmigmaaDoor
