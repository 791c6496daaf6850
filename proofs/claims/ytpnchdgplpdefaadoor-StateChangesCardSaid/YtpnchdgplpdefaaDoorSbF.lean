/- State: the reference's Check (written by genSbF.py). -/
import Derived.Test.YtpnchdgplpdefaaDoorSbE
namespace Go.Proofs.YtpnchdgplpdefaaDoor
open Go.RowKit Go.Shelf

set_option maxRecDepth 100000 in
set_option maxHeartbeats 4000000 in
theorem rOwned_any (k : Nat) (u : Usa) (w : World) (hk : 1 ≤ k ∧ k ≤ 20) (hu : usaL[k]? = some u) : Calls Tryd.prog 97 #[.int .i64 (k : Int)] w (SameW w (.bool u.owner)) := by
  match k, hk with
  | 1, _ =>
    obtain rfl := Option.some.inj hu
    go_enter Tryd.func97, Tryd.ntmps97
    go_wp2
    go_ret
    exact ⟨rfl, rfl⟩
  | 2, _ =>
    obtain rfl := Option.some.inj hu
    go_enter Tryd.func97, Tryd.ntmps97
    go_wp2
    go_ret
    exact ⟨rfl, rfl⟩
  | 3, _ =>
    obtain rfl := Option.some.inj hu
    go_enter Tryd.func97, Tryd.ntmps97
    go_wp2
    go_ret
    exact ⟨rfl, rfl⟩
  | 4, _ =>
    obtain rfl := Option.some.inj hu
    go_enter Tryd.func97, Tryd.ntmps97
    go_wp2
    go_ret
    exact ⟨rfl, rfl⟩
  | 5, _ =>
    obtain rfl := Option.some.inj hu
    go_enter Tryd.func97, Tryd.ntmps97
    go_wp2
    go_ret
    exact ⟨rfl, rfl⟩
  | 6, _ =>
    obtain rfl := Option.some.inj hu
    go_enter Tryd.func97, Tryd.ntmps97
    go_wp2
    go_ret
    exact ⟨rfl, rfl⟩
  | 7, _ =>
    obtain rfl := Option.some.inj hu
    go_enter Tryd.func97, Tryd.ntmps97
    go_wp2
    go_ret
    exact ⟨rfl, rfl⟩
  | 8, _ =>
    obtain rfl := Option.some.inj hu
    go_enter Tryd.func97, Tryd.ntmps97
    go_wp2
    go_ret
    exact ⟨rfl, rfl⟩
  | 9, _ =>
    obtain rfl := Option.some.inj hu
    go_enter Tryd.func97, Tryd.ntmps97
    go_wp2
    go_ret
    exact ⟨rfl, rfl⟩
  | 10, _ =>
    obtain rfl := Option.some.inj hu
    go_enter Tryd.func97, Tryd.ntmps97
    go_wp2
    go_ret
    exact ⟨rfl, rfl⟩
  | 11, _ =>
    obtain rfl := Option.some.inj hu
    go_enter Tryd.func97, Tryd.ntmps97
    go_wp2
    go_ret
    exact ⟨rfl, rfl⟩
  | 12, _ =>
    obtain rfl := Option.some.inj hu
    go_enter Tryd.func97, Tryd.ntmps97
    go_wp2
    go_ret
    exact ⟨rfl, rfl⟩
  | 13, _ =>
    obtain rfl := Option.some.inj hu
    go_enter Tryd.func97, Tryd.ntmps97
    go_wp2
    go_ret
    exact ⟨rfl, rfl⟩
  | 14, _ =>
    obtain rfl := Option.some.inj hu
    go_enter Tryd.func97, Tryd.ntmps97
    go_wp2
    go_ret
    exact ⟨rfl, rfl⟩
  | 15, _ =>
    obtain rfl := Option.some.inj hu
    go_enter Tryd.func97, Tryd.ntmps97
    go_wp2
    go_ret
    exact ⟨rfl, rfl⟩
  | 16, _ =>
    obtain rfl := Option.some.inj hu
    go_enter Tryd.func97, Tryd.ntmps97
    go_wp2
    go_ret
    exact ⟨rfl, rfl⟩
  | 17, _ =>
    obtain rfl := Option.some.inj hu
    go_enter Tryd.func97, Tryd.ntmps97
    go_wp2
    go_ret
    exact ⟨rfl, rfl⟩
  | 18, _ =>
    obtain rfl := Option.some.inj hu
    go_enter Tryd.func97, Tryd.ntmps97
    go_wp2
    go_ret
    exact ⟨rfl, rfl⟩
  | 19, _ =>
    obtain rfl := Option.some.inj hu
    go_enter Tryd.func97, Tryd.ntmps97
    go_wp2
    go_ret
    exact ⟨rfl, rfl⟩
  | 20, _ =>
    obtain rfl := Option.some.inj hu
    go_enter Tryd.func97, Tryd.ntmps97
    go_wp2
    go_ret
    exact ⟨rfl, rfl⟩
  | k + 21, h => omega
set_option maxRecDepth 100000 in
set_option maxHeartbeats 4000000 in
theorem rNumbered_any (k : Nat) (u : Usa) (w : World) (hk : 1 ≤ k ∧ k ≤ 20) (hu : usaL[k]? = some u) : Calls Tryd.prog 99 #[.int .i64 (k : Int)] w (SameW w (.bool u.number)) := by
  match k, hk with
  | 1, _ =>
    obtain rfl := Option.some.inj hu
    go_enter Tryd.func99, Tryd.ntmps99
    go_wp2
    go_ret
    exact ⟨rfl, rfl⟩
  | 2, _ =>
    obtain rfl := Option.some.inj hu
    go_enter Tryd.func99, Tryd.ntmps99
    go_wp2
    go_ret
    exact ⟨rfl, rfl⟩
  | 3, _ =>
    obtain rfl := Option.some.inj hu
    go_enter Tryd.func99, Tryd.ntmps99
    go_wp2
    go_ret
    exact ⟨rfl, rfl⟩
  | 4, _ =>
    obtain rfl := Option.some.inj hu
    go_enter Tryd.func99, Tryd.ntmps99
    go_wp2
    go_ret
    exact ⟨rfl, rfl⟩
  | 5, _ =>
    obtain rfl := Option.some.inj hu
    go_enter Tryd.func99, Tryd.ntmps99
    go_wp2
    go_ret
    exact ⟨rfl, rfl⟩
  | 6, _ =>
    obtain rfl := Option.some.inj hu
    go_enter Tryd.func99, Tryd.ntmps99
    go_wp2
    go_ret
    exact ⟨rfl, rfl⟩
  | 7, _ =>
    obtain rfl := Option.some.inj hu
    go_enter Tryd.func99, Tryd.ntmps99
    go_wp2
    go_ret
    exact ⟨rfl, rfl⟩
  | 8, _ =>
    obtain rfl := Option.some.inj hu
    go_enter Tryd.func99, Tryd.ntmps99
    go_wp2
    go_ret
    exact ⟨rfl, rfl⟩
  | 9, _ =>
    obtain rfl := Option.some.inj hu
    go_enter Tryd.func99, Tryd.ntmps99
    go_wp2
    go_ret
    exact ⟨rfl, rfl⟩
  | 10, _ =>
    obtain rfl := Option.some.inj hu
    go_enter Tryd.func99, Tryd.ntmps99
    go_wp2
    go_ret
    exact ⟨rfl, rfl⟩
  | 11, _ =>
    obtain rfl := Option.some.inj hu
    go_enter Tryd.func99, Tryd.ntmps99
    go_wp2
    go_ret
    exact ⟨rfl, rfl⟩
  | 12, _ =>
    obtain rfl := Option.some.inj hu
    go_enter Tryd.func99, Tryd.ntmps99
    go_wp2
    go_ret
    exact ⟨rfl, rfl⟩
  | 13, _ =>
    obtain rfl := Option.some.inj hu
    go_enter Tryd.func99, Tryd.ntmps99
    go_wp2
    go_ret
    exact ⟨rfl, rfl⟩
  | 14, _ =>
    obtain rfl := Option.some.inj hu
    go_enter Tryd.func99, Tryd.ntmps99
    go_wp2
    go_ret
    exact ⟨rfl, rfl⟩
  | 15, _ =>
    obtain rfl := Option.some.inj hu
    go_enter Tryd.func99, Tryd.ntmps99
    go_wp2
    go_ret
    exact ⟨rfl, rfl⟩
  | 16, _ =>
    obtain rfl := Option.some.inj hu
    go_enter Tryd.func99, Tryd.ntmps99
    go_wp2
    go_ret
    exact ⟨rfl, rfl⟩
  | 17, _ =>
    obtain rfl := Option.some.inj hu
    go_enter Tryd.func99, Tryd.ntmps99
    go_wp2
    go_ret
    exact ⟨rfl, rfl⟩
  | 18, _ =>
    obtain rfl := Option.some.inj hu
    go_enter Tryd.func99, Tryd.ntmps99
    go_wp2
    go_ret
    exact ⟨rfl, rfl⟩
  | 19, _ =>
    obtain rfl := Option.some.inj hu
    go_enter Tryd.func99, Tryd.ntmps99
    go_wp2
    go_ret
    exact ⟨rfl, rfl⟩
  | 20, _ =>
    obtain rfl := Option.some.inj hu
    go_enter Tryd.func99, Tryd.ntmps99
    go_wp2
    go_ret
    exact ⟨rfl, rfl⟩
  | k + 21, h => omega
set_option maxRecDepth 100000 in
set_option maxHeartbeats 4000000 in
theorem rTexted_any (k : Nat) (u : Usa) (w : World) (hk : 1 ≤ k ∧ k ≤ 20) (hu : usaL[k]? = some u) : Calls Tryd.prog 101 #[.int .i64 (k : Int)] w (SameW w (.bool u.text)) := by
  match k, hk with
  | 1, _ =>
    obtain rfl := Option.some.inj hu
    go_enter Tryd.func101, Tryd.ntmps101
    go_wp2
    go_ret
    exact ⟨rfl, rfl⟩
  | 2, _ =>
    obtain rfl := Option.some.inj hu
    go_enter Tryd.func101, Tryd.ntmps101
    go_wp2
    go_ret
    exact ⟨rfl, rfl⟩
  | 3, _ =>
    obtain rfl := Option.some.inj hu
    go_enter Tryd.func101, Tryd.ntmps101
    go_wp2
    go_ret
    exact ⟨rfl, rfl⟩
  | 4, _ =>
    obtain rfl := Option.some.inj hu
    go_enter Tryd.func101, Tryd.ntmps101
    go_wp2
    go_ret
    exact ⟨rfl, rfl⟩
  | 5, _ =>
    obtain rfl := Option.some.inj hu
    go_enter Tryd.func101, Tryd.ntmps101
    go_wp2
    go_ret
    exact ⟨rfl, rfl⟩
  | 6, _ =>
    obtain rfl := Option.some.inj hu
    go_enter Tryd.func101, Tryd.ntmps101
    go_wp2
    go_ret
    exact ⟨rfl, rfl⟩
  | 7, _ =>
    obtain rfl := Option.some.inj hu
    go_enter Tryd.func101, Tryd.ntmps101
    go_wp2
    go_ret
    exact ⟨rfl, rfl⟩
  | 8, _ =>
    obtain rfl := Option.some.inj hu
    go_enter Tryd.func101, Tryd.ntmps101
    go_wp2
    go_ret
    exact ⟨rfl, rfl⟩
  | 9, _ =>
    obtain rfl := Option.some.inj hu
    go_enter Tryd.func101, Tryd.ntmps101
    go_wp2
    go_ret
    exact ⟨rfl, rfl⟩
  | 10, _ =>
    obtain rfl := Option.some.inj hu
    go_enter Tryd.func101, Tryd.ntmps101
    go_wp2
    go_ret
    exact ⟨rfl, rfl⟩
  | 11, _ =>
    obtain rfl := Option.some.inj hu
    go_enter Tryd.func101, Tryd.ntmps101
    go_wp2
    go_ret
    exact ⟨rfl, rfl⟩
  | 12, _ =>
    obtain rfl := Option.some.inj hu
    go_enter Tryd.func101, Tryd.ntmps101
    go_wp2
    go_ret
    exact ⟨rfl, rfl⟩
  | 13, _ =>
    obtain rfl := Option.some.inj hu
    go_enter Tryd.func101, Tryd.ntmps101
    go_wp2
    go_ret
    exact ⟨rfl, rfl⟩
  | 14, _ =>
    obtain rfl := Option.some.inj hu
    go_enter Tryd.func101, Tryd.ntmps101
    go_wp2
    go_ret
    exact ⟨rfl, rfl⟩
  | 15, _ =>
    obtain rfl := Option.some.inj hu
    go_enter Tryd.func101, Tryd.ntmps101
    go_wp2
    go_ret
    exact ⟨rfl, rfl⟩
  | 16, _ =>
    obtain rfl := Option.some.inj hu
    go_enter Tryd.func101, Tryd.ntmps101
    go_wp2
    go_ret
    exact ⟨rfl, rfl⟩
  | 17, _ =>
    obtain rfl := Option.some.inj hu
    go_enter Tryd.func101, Tryd.ntmps101
    go_wp2
    go_ret
    exact ⟨rfl, rfl⟩
  | 18, _ =>
    obtain rfl := Option.some.inj hu
    go_enter Tryd.func101, Tryd.ntmps101
    go_wp2
    go_ret
    exact ⟨rfl, rfl⟩
  | 19, _ =>
    obtain rfl := Option.some.inj hu
    go_enter Tryd.func101, Tryd.ntmps101
    go_wp2
    go_ret
    exact ⟨rfl, rfl⟩
  | 20, _ =>
    obtain rfl := Option.some.inj hu
    go_enter Tryd.func101, Tryd.ntmps101
    go_wp2
    go_ret
    exact ⟨rfl, rfl⟩
  | k + 21, h => omega
set_option maxRecDepth 100000 in
set_option maxHeartbeats 4000000 in
theorem rMost_any (k : Nat) (u : Usa) (w : World) (hk : 1 ≤ k ∧ k ≤ 20) (hu : usaL[k]? = some u) : Calls Tryd.prog 100 #[.int .i64 (k : Int)] w (SameW w (.int .i64 (if u.index = true then u.most else -1))) := by
  match k, hk with
  | 1, _ =>
    obtain rfl := Option.some.inj hu
    go_enter Tryd.func100, Tryd.ntmps100
    go_wp2
    go_ret
    exact ⟨rfl, rfl⟩
  | 2, _ =>
    obtain rfl := Option.some.inj hu
    go_enter Tryd.func100, Tryd.ntmps100
    go_wp2
    go_ret
    exact ⟨rfl, rfl⟩
  | 3, _ =>
    obtain rfl := Option.some.inj hu
    go_enter Tryd.func100, Tryd.ntmps100
    go_wp2
    go_ret
    exact ⟨rfl, rfl⟩
  | 4, _ =>
    obtain rfl := Option.some.inj hu
    go_enter Tryd.func100, Tryd.ntmps100
    go_wp2
    go_ret
    exact ⟨rfl, rfl⟩
  | 5, _ =>
    obtain rfl := Option.some.inj hu
    go_enter Tryd.func100, Tryd.ntmps100
    go_wp2
    go_ret
    exact ⟨rfl, rfl⟩
  | 6, _ =>
    obtain rfl := Option.some.inj hu
    go_enter Tryd.func100, Tryd.ntmps100
    go_wp2
    go_ret
    exact ⟨rfl, rfl⟩
  | 7, _ =>
    obtain rfl := Option.some.inj hu
    go_enter Tryd.func100, Tryd.ntmps100
    go_wp2
    go_ret
    exact ⟨rfl, rfl⟩
  | 8, _ =>
    obtain rfl := Option.some.inj hu
    go_enter Tryd.func100, Tryd.ntmps100
    go_wp2
    go_ret
    exact ⟨rfl, rfl⟩
  | 9, _ =>
    obtain rfl := Option.some.inj hu
    go_enter Tryd.func100, Tryd.ntmps100
    go_wp2
    go_ret
    exact ⟨rfl, rfl⟩
  | 10, _ =>
    obtain rfl := Option.some.inj hu
    go_enter Tryd.func100, Tryd.ntmps100
    go_wp2
    go_ret
    exact ⟨rfl, rfl⟩
  | 11, _ =>
    obtain rfl := Option.some.inj hu
    go_enter Tryd.func100, Tryd.ntmps100
    go_wp2
    go_ret
    exact ⟨rfl, rfl⟩
  | 12, _ =>
    obtain rfl := Option.some.inj hu
    go_enter Tryd.func100, Tryd.ntmps100
    go_wp2
    go_ret
    exact ⟨rfl, rfl⟩
  | 13, _ =>
    obtain rfl := Option.some.inj hu
    go_enter Tryd.func100, Tryd.ntmps100
    go_wp2
    go_ret
    exact ⟨rfl, rfl⟩
  | 14, _ =>
    obtain rfl := Option.some.inj hu
    go_enter Tryd.func100, Tryd.ntmps100
    go_wp2
    go_ret
    exact ⟨rfl, rfl⟩
  | 15, _ =>
    obtain rfl := Option.some.inj hu
    go_enter Tryd.func100, Tryd.ntmps100
    go_wp2
    go_ret
    exact ⟨rfl, rfl⟩
  | 16, _ =>
    obtain rfl := Option.some.inj hu
    go_enter Tryd.func100, Tryd.ntmps100
    go_wp2
    go_ret
    exact ⟨rfl, rfl⟩
  | 17, _ =>
    obtain rfl := Option.some.inj hu
    go_enter Tryd.func100, Tryd.ntmps100
    go_wp2
    go_ret
    exact ⟨rfl, rfl⟩
  | 18, _ =>
    obtain rfl := Option.some.inj hu
    go_enter Tryd.func100, Tryd.ntmps100
    go_wp2
    go_ret
    exact ⟨rfl, rfl⟩
  | 19, _ =>
    obtain rfl := Option.some.inj hu
    go_enter Tryd.func100, Tryd.ntmps100
    go_wp2
    go_ret
    exact ⟨rfl, rfl⟩
  | 20, _ =>
    obtain rfl := Option.some.inj hu
    go_enter Tryd.func100, Tryd.ntmps100
    go_wp2
    go_ret
    exact ⟨rfl, rfl⟩
  | k + 21, h => omega

set_option maxRecDepth 100000 in
set_option maxHeartbeats 2000000 in
theorem rWord_any (s : ByteArray) (w : World) (hs : s.size ≤ 1099511627776) : Calls Tryd.prog 110 #[.string s] w (SameW w (.bool (wordO s))) := by
  have HS := Lib.hid hs
  obtain ⟨R, hR⟩ : ∃ R, R = wordO s := ⟨_, rfl⟩
  rw [← hR]
  have HR : Hid (R = (!s.toList.isEmpty && decide (s.size ≤ 32) && s.toList.all wordB)) := hR
  have HAT : Hid (∀ i, i < s.size → ∃ b, ∃ h : i < s.size, s.toList[i]? = some b ∧ s[i] = b) := fun i hi => by
    have h2 : s.toList[i]? = some (s.toList[i]'(by rw [toList_size]; exact hi)) := List.getElem?_eq_getElem _
    obtain ⟨h3, h4⟩ := str_at h2
    exact ⟨_, h3, h2, h4⟩
  clear hR hs
  go_enter Tryd.func110, Tryd.ntmps110
  go_wp2
  go_loopw [3] (fun i wr => ∃ k : Nat, k ≤ s.size ∧ (∀ b ∈ s.toList.take k, wordB b = true) ∧ i = .int .i64 k ∧ w = wr) (fun i _ => s.size - (intOf i).toNat)
  case atStart => exact ⟨0, by omega, by simp, rfl, rfl⟩
  case round =>
    obtain ⟨k, hk, hall, rfl, rfl⟩ := hrel
    have HA := Lib.hid hall
    have nk : k ≤ 1099511627776 := by have := HS.out; omega
    clear hall
    by_cases hlt : k < s.size
    · have hI : (k : Int) < (s.size : Int) := by omega
      have hI0 : (0 : Int) ≤ (k : Int) := by omega
      obtain ⟨b, h1, h2, h3⟩ := HAT.out k hlt
      have H2 := Lib.hid h2
      clear h2
      have hno : ∀ h : wordB b = false, R = false := fun h => by
        have : s.toList.all wordB = false := by
          rw [List.all_eq_false]
          exact ⟨b, List.mem_of_getElem? H2.out, by rw [h]; simp⟩
        rw [HR.out, this, Bool.and_false]
      have HNO := Lib.hid hno
      clear hno
      by_cases g1 : 33 ≤ b.toNat
      · have u1 : decide ((b.toNat : Int) < 33) = false := decide_eq_false (by omega)
        have u1' : ¬ (b.toNat : Int) < 33 := by omega
        by_cases g2 : b.toNat ≤ 126
        · have u2 : decide ((126 : Int) < (b.toNat : Int)) = false := decide_eq_false (by omega)
          have u2' : ¬ (126 : Int) < (b.toNat : Int) := by omega
          by_cases g3 : b.toNat = 47
          · have u3 : ((b.toNat : Int) == 47) = true := by rw [beq_iff_eq]; omega
            obtain rfl : R = false := HNO.out (by simp [wordB, g3])
            clear g1 g2 g3
            go_wp2
            go_ret
            exact ⟨rfl, rfl⟩
          · have u3 : ((b.toNat : Int) == 47) = false := by rw [beq_eq_false_iff_ne]; omega
            have HB : Hid (wordB b = true) := by simp [Hid, wordB, g1, g2, g3]
            clear g1 g2 g3 HNO
            go_wp2
            go_roundw
            case rel => exact ⟨k + 1, by omega, fun x hx => by
                rw [List.take_add_one, H2.out, Option.toList_some, List.mem_append, List.mem_singleton] at hx
                rcases hx with hx | rfl
                · exact HA.out x hx
                · exact HB.out, by go_num, trivial⟩
            case measure => simp [intOf]; omega
        · have u2 : decide ((126 : Int) < (b.toNat : Int)) = true := decide_eq_true (by omega)
          have u2' : (126 : Int) < (b.toNat : Int) := by omega
          obtain rfl : R = false := HNO.out (by simp [wordB, g2])
          clear g1 g2
          go_wp2
          go_ret
          exact ⟨rfl, rfl⟩
      · have u1 : decide ((b.toNat : Int) < 33) = true := decide_eq_true (by omega)
        have u1' : (b.toNat : Int) < 33 := by omega
        obtain rfl : R = false := HNO.out (by simp [wordB, g1])
        clear g1
        go_wp2
        go_ret
        exact ⟨rfl, rfl⟩
    · obtain rfl : k = s.size := by omega
      have hall : s.toList.all wordB = true := by
        rw [List.all_eq_true]
        have h := HA.out
        rw [List.take_of_length_le (by rw [toList_size]; omega)] at h
        exact h
      have hR2 : R = (!s.toList.isEmpty && decide (s.size ≤ 32)) := by rw [HR.out, hall, Bool.and_true]
      clear hlt hall HR
      by_cases h0 : s.size = 0
      · have he : s.toList.isEmpty = true := by
          rw [List.isEmpty_iff]
          exact List.length_eq_zero_iff.1 (by rw [toList_size]; exact h0)
        obtain rfl : R = false := by rw [hR2, he]; rfl
        have t1 : decide ((1 : Int) ≤ (s.size : Int)) = false := decide_eq_false (by omega)
        have t1' : ¬ (1 : Int) ≤ (s.size : Int) := by omega
        have t1'' : ¬ 1 ≤ s.size := by omega
        clear hR2 he
        go_wp2
        go_ret
        exact ⟨rfl, rfl⟩
      · have he : s.toList.isEmpty = false := by
          rw [List.isEmpty_eq_false_iff]
          intro e
          have := congrArg List.length e
          rw [toList_size] at this
          exact h0 (by simpa using this)
        have t1 : decide ((1 : Int) ≤ (s.size : Int)) = true := decide_eq_true (by omega)
        have t1' : (1 : Int) ≤ (s.size : Int) := by omega
        have t1'' : 1 ≤ s.size := by omega
        by_cases h32 : s.size ≤ 32
        · obtain rfl : R = true := by rw [hR2, he, decide_eq_true h32]; rfl
          have t2 : decide ((s.size : Int) ≤ 32) = true := decide_eq_true (by omega)
          clear hR2 he h0
          go_wp2
          go_ret
          exact ⟨rfl, rfl⟩
        · obtain rfl : R = false := by rw [hR2, he, decide_eq_false h32]; rfl
          have t2 : decide ((s.size : Int) ≤ 32) = false := decide_eq_false (by omega)
          clear hR2 he h0
          go_wp2
          go_ret
          exact ⟨rfl, rfl⟩
set_option maxRecDepth 100000 in
set_option maxHeartbeats 8000000 in
theorem rCheck_1000 (k : Nat) (ow : ByteArray) (nu ix : Int) (tx wd : ByteArray) (mo : Int) (w : World) (hk : 1 ≤ k ∧ k ≤ 20) (hu : usaL[k]? = some ⟨wd, true, false, false, false, mo⟩) (ho : ow.size ≤ 1099511627776) (ht : tx.size ≤ 1099511627776) (_hmo : 0 ≤ mo) (hmo0 : mo = 0) :
    Calls Tryd.prog 80 #[.agg #[.int .i64 (k : Int), .string ow, .int .i64 nu, .int .i64 ix, .string tx]] w (Checked w ⟨(k : Int), ow, nu, ix, tx⟩) := by
  have HOK : Hid (okNm ⟨(k : Int), ow, nu, ix, tx⟩ = okUs ⟨wd, true, false, false, false, mo⟩ ⟨(k : Int), ow, nu, ix, tx⟩) := by
    simp only [Hid, okNm, Int.toNat_natCast, hu]
    rw [decide_eq_true (show (1 : Int) ≤ (k : Int) by omega), decide_eq_true (show (k : Int) ≤ 20 by omega)]
    rfl
  have HOW := Lib.hid ho
  have HTX := Lib.hid ht
  have CO : Hid (∀ w, Calls Tryd.prog 97 #[.int .i64 (k : Int)] w (SameW w (.bool true))) := fun w => rOwned_any k _ w hk hu
  have CN : Hid (∀ w, Calls Tryd.prog 99 #[.int .i64 (k : Int)] w (SameW w (.bool false))) := fun w => rNumbered_any k _ w hk hu
  have CT : Hid (∀ w, Calls Tryd.prog 101 #[.int .i64 (k : Int)] w (SameW w (.bool false))) := fun w => rTexted_any k _ w hk hu
  obtain ⟨mq, hmq⟩ : ∃ mq : Int, mq = (if false = true then mo else -1) := ⟨_, rfl⟩
  have CM : Hid (∀ w, Calls Tryd.prog 100 #[.int .i64 (k : Int)] w (SameW w (.int .i64 mq))) := fun w => by rw [hmq]; exact rMost_any k _ w hk hu
  have hmq2 : mq = -1 := by rw [hmq]; simp
  have tq : decide (mq < 0) = true := decide_eq_true (by omega)
  have HMX : Hid (max mq 0 = mo) := by simp only [Hid]; omega
  have k1 : decide ((k : Int) < 1) = false := decide_eq_false (by omega)
  have k1' : ¬ (k : Int) < 1 := by omega
  have k2 : decide ((20 : Int) < (k : Int)) = false := decide_eq_false (by omega)
  have k2' : ¬ (20 : Int) < (k : Int) := by omega
  clear hk hu ho ht hmq hmq2
  go_enter Tryd.func80, Tryd.ntmps80
  go_wp2_with (refine wpList_boxBlk rfl 40 (.tmp 0) rfl #[.int .i64 (k : Int), .string ow, .int .i64 nu, .int .i64 ix, .string tx] rfl ?_)
  intro w1 n1
  have F1 := Lib.hid n1.fr
  have NB := Lib.hid n1.blk
  have c0 : w1.cell? ⟨w.heap.size, 0, none⟩ = some (.int .i64 (k : Int)) := n1.blk.cell 0
  have c1 : w1.cell? ⟨w.heap.size, 1, none⟩ = some (.string ow) := n1.blk.cell 1
  have c2 : w1.cell? ⟨w.heap.size, 2, none⟩ = some (.int .i64 nu) := n1.blk.cell 2
  have c3 : w1.cell? ⟨w.heap.size, 3, none⟩ = some (.int .i64 ix) := n1.blk.cell 3
  have c4 : w1.cell? ⟨w.heap.size, 4, none⟩ = some (.string tx) := n1.blk.cell 4
  clear n1
  generalize w.heap.size = gb at *
  go_wp2_with fail
  refine (CO.out _).mono ?_
  rintro e w9 ⟨rfl, rfl⟩
  go_wp2_with fail
  refine (CN.out _).mono ?_
  rintro e w9 ⟨rfl, rfl⟩
  by_cases e_nu : nu = 0
  · have He_nu := Lib.hid e_nu
    have t_e_nu := beq0 e_nu
    clear e_nu
    go_wp2_with fail
    refine (CM.out _).mono ?_
    rintro e w9 ⟨rfl, rfl⟩
    by_cases e_ix : ix = 0
    · have He_ix := Lib.hid e_ix
      have t_e_ix := beq0 e_ix
      clear e_ix
      go_wp2_with fail
      refine (CT.out _).mono ?_
      rintro e w9 ⟨rfl, rfl⟩
      cases e_tx : tx.toList.isEmpty
      · have He_tx := Lib.hid e_tx
        go_wp2
        go_ret
        refine ⟨_, rfl, ?_, F1.out⟩
        rw [HOK.out]
        simp [okUs, He_tx.out]
      · have He_tx := Lib.hid e_tx
        go_wp2_with fail
        refine (CO.out _).mono ?_
        rintro e w9 ⟨rfl, rfl⟩
        have K1 := Lib.hid (rValid_any ow w1 HOW.out)
        obtain ⟨v1, hv1⟩ : ∃ v1, validO ow = v1 := ⟨_, rfl⟩
        have Hv1 := Lib.hid hv1
        rw [hv1] at K1
        clear hv1
        go_wp2_with fail
        refine K1.out.mono ?_
        rintro e w4 ⟨rfl, f4⟩
        have F4 := Lib.hid (F1.out.trans f4)
        have n2 := Lib.hid (f4.cellSome c2 (fun x => x))
        have n3 := Lib.hid (f4.cellSome c3 (fun x => x))
        have n4 := Lib.hid (f4.cellSome c4 (fun x => x))
        clear f4 c0 c1 c2 c3 c4
        cases v1
        · go_wp2
          go_ret
          refine ⟨_, rfl, ?_, F4.out⟩
          rw [HOK.out]
          have hh := Hv1.out
          simp [okUs, hh]
        · have u0 : decide (nu < 0) = false := decide_eq_false (by have := He_nu.out; omega)
          have u1 : decide (1073741824 < nu) = false := decide_eq_false (by have := He_nu.out; omega)
          have v0 : decide (ix < 0) = false := decide_eq_false (by have := He_ix.out; omega)
          have v1 : decide (mo < ix) = false := decide_eq_false (by have := He_ix.out; omega)
          go_upto_region 8 with fail
          refine wp_region_st 22 Nothing [Is (.pointer (some ⟨gb, 2, none⟩)), Is (.int .i64 nu), Is (.bool false), Is (.bool false), Is (.pointer (some ⟨gb, 2, none⟩)), Is (.int .i64 nu), Is (.bool false), Is (.bool false), Is (.bool false), Is (.pointer (some ⟨gb, 3, none⟩)), Is (.int .i64 ix), Is (.bool false), Is (.bool false), Is (.bool false), Is (.pointer (some ⟨gb, 3, none⟩)), Is (.int .i64 ix), Is (.int .i64 (k : Int)), Is (.int .i64 mq), Is (.int .i64 mo), Is (.bool false), Is (.bool false), Is (.bool false)] [] (fun _ => True) (fun _ _ => false) (by kernel_rfl) (by kernel_rfl) (by kernel_rfl) (by kernel_rfl) ⟨Is.stable _, Is.stable _, Is.stable _, Is.stable _, Is.stable _, Is.stable _, Is.stable _, Is.stable _, Is.stable _, Is.stable _, Is.stable _, Is.stable _, Is.stable _, Is.stable _, Is.stable _, Is.stable _, Is.stable _, Is.stable _, Is.stable _, Is.stable _, Is.stable _, Is.stable _, trivial⟩ trivial (fun _ _ _ _ h => h) trivial ?_ ?_
          · refine ⟨fun u w' d hf hR k1 k0 kM => ?_, fun u w' d hf hR k1 k0 kM => ?_, fun u w' d hf hR k1 k0 kM => ?_, fun u w' d hf hR k1 k0 kM => ?_, fun u w' d hf hR k1 k0 kM => ?_, fun u w' d hf hR k1 k0 kM => ?_, fun u w' d hf hR k1 k0 kM => ?_, fun u w' d hf hR k1 k0 kM => ?_, fun u w' d hf hR k1 k0 kM => ?_, fun u w' d hf hR k1 k0 kM => ?_, fun u w' d hf hR k1 k0 kM => ?_, fun u w' d hf hR k1 k0 kM => ?_, fun u w' d hf hR k1 k0 kM => ?_, fun u w' d hf hR k1 k0 kM => ?_, fun u w' d hf hR k1 k0 kM => ?_, fun u w' d hf hR k1 k0 kM => ?_, fun u w' d hf hR k1 k0 kM => ?_, fun u w' d hf hR k1 k0 kM => ?_, fun u w' d hf hR k1 k0 kM => ?_, fun u w' d hf hR k1 k0 kM => ?_, fun u w' d hf hR k1 k0 kM => ?_, fun u w' d hf hR k1 k0 kM => ?_, trivial⟩
            all_goals simp only [List.take_succ_cons, List.take_zero, List.map_cons, List.map_nil, puts, Act.put, List.setIfInBounds_toArray, List.set_cons_zero, List.set_cons_succ, Nat.reduceAdd, Nat.zero_add]
            · clear hR k1 k0 kM
              refine .inl ⟨by kernel_rfl, ?_⟩
              go_simp
              exact ⟨_, rfl, Fr.refl _ _, rfl, trivial⟩
            · have h0 : u 0 = _ := hR 0 (by kernel_rfl)
              clear hR k1 k0 kM
              simp only [h0]
              refine .inl ⟨by kernel_rfl, ?_⟩
              have q := hf.cellSome (n2.out) (fun x => x)
              go_simp
              exact ⟨_, rfl, Fr.refl _ _, rfl, trivial⟩
            · have h1 : u 1 = _ := hR 1 (by kernel_rfl)
              clear hR k1 k0 kM
              simp only [h1]
              refine .inl ⟨by kernel_rfl, ?_⟩
              go_simp
              exact ⟨_, rfl, Fr.refl _ _, rfl, trivial⟩
            · have h2 : u 2 = _ := hR 2 (by kernel_rfl)
              clear hR k1 k0 kM
              simp only [h2]
              refine .inl ⟨by kernel_rfl, ?_⟩
              go_simp
              exact ⟨_, rfl, Fr.refl _ _, rfl, trivial⟩
            · have h3 : u 3 = _ := hR 3 (by kernel_rfl)
              clear hR k1 k0 kM
              simp only [h3]
              refine .inl ⟨by kernel_rfl, ?_⟩
              go_simp
              exact ⟨_, rfl, Fr.refl _ _, rfl, trivial⟩
            · have h4 : u 4 = _ := hR 4 (by kernel_rfl)
              have h3 : u 3 = _ := hR 3 (by kernel_rfl)
              clear hR k1 k0 kM
              simp only [h4, h3]
              refine .inl ⟨by kernel_rfl, ?_⟩
              have q := hf.cellSome (n2.out) (fun x => x)
              go_simp
              exact ⟨_, rfl, Fr.refl _ _, rfl, trivial⟩
            · have h5 : u 5 = _ := hR 5 (by kernel_rfl)
              have h3 : u 3 = _ := hR 3 (by kernel_rfl)
              clear hR k1 k0 kM
              simp only [h5, h3]
              refine .inl ⟨by kernel_rfl, ?_⟩
              go_simp
              exact ⟨_, rfl, Fr.refl _ _, rfl, trivial⟩
            · have h3 : u 3 = _ := hR 3 (by kernel_rfl)
              have h6 : u 6 = _ := hR 6 (by kernel_rfl)
              clear hR k1 k0 kM
              simp only [h3, h6]
              refine .inl ⟨by kernel_rfl, ?_⟩
              go_simp
              exact ⟨_, rfl, Fr.refl _ _, rfl, trivial⟩
            · have h7 : u 7 = _ := hR 7 (by kernel_rfl)
              clear hR k1 k0 kM
              simp only [h7]
              refine .inl ⟨by kernel_rfl, ?_⟩
              go_simp
              exact ⟨_, rfl, Fr.refl _ _, rfl, trivial⟩
            · have h8 : u 8 = _ := hR 8 (by kernel_rfl)
              clear hR k1 k0 kM
              simp only [h8]
              refine .inl ⟨by kernel_rfl, ?_⟩
              go_simp
              exact ⟨_, rfl, Fr.refl _ _, rfl, trivial⟩
            · have h9 : u 9 = _ := hR 9 (by kernel_rfl)
              have h8 : u 8 = _ := hR 8 (by kernel_rfl)
              clear hR k1 k0 kM
              simp only [h9, h8]
              refine .inl ⟨by kernel_rfl, ?_⟩
              have q := hf.cellSome (n3.out) (fun x => x)
              go_simp
              exact ⟨_, rfl, Fr.refl _ _, rfl, trivial⟩
            · have h10 : u 10 = _ := hR 10 (by kernel_rfl)
              have h8 : u 8 = _ := hR 8 (by kernel_rfl)
              clear hR k1 k0 kM
              simp only [h10, h8]
              refine .inl ⟨by kernel_rfl, ?_⟩
              go_simp
              exact ⟨_, rfl, Fr.refl _ _, rfl, trivial⟩
            · have h8 : u 8 = _ := hR 8 (by kernel_rfl)
              have h11 : u 11 = _ := hR 11 (by kernel_rfl)
              clear hR k1 k0 kM
              simp only [h8, h11]
              refine .inl ⟨by kernel_rfl, ?_⟩
              go_simp
              exact ⟨_, rfl, Fr.refl _ _, rfl, trivial⟩
            · have h12 : u 12 = _ := hR 12 (by kernel_rfl)
              clear hR k1 k0 kM
              simp only [h12]
              refine .inl ⟨by kernel_rfl, ?_⟩
              go_simp
              exact ⟨_, rfl, Fr.refl _ _, rfl, trivial⟩
            · have h13 : u 13 = _ := hR 13 (by kernel_rfl)
              clear hR k1 k0 kM
              simp only [h13]
              refine .inl ⟨by kernel_rfl, ?_⟩
              go_simp
              exact ⟨_, rfl, Fr.refl _ _, rfl, trivial⟩
            · have h14 : u 14 = _ := hR 14 (by kernel_rfl)
              have h13 : u 13 = _ := hR 13 (by kernel_rfl)
              clear hR k1 k0 kM
              simp only [h14, h13]
              refine .inl ⟨by kernel_rfl, ?_⟩
              have q := hf.cellSome (n3.out) (fun x => x)
              go_simp
              exact ⟨_, rfl, Fr.refl _ _, rfl, trivial⟩
            · have h13 : u 13 = _ := hR 13 (by kernel_rfl)
              clear hR k1 k0 kM
              simp only [h13]
              refine .inl ⟨by kernel_rfl, ?_⟩
              go_simp
              exact ⟨_, rfl, Fr.refl _ _, rfl, trivial⟩
            · have h16 : u 16 = _ := hR 16 (by kernel_rfl)
              have h13 : u 13 = _ := hR 13 (by kernel_rfl)
              clear hR k1 k0 kM
              simp only [h16, h13]
              refine .inl ⟨by kernel_rfl, ?_⟩
              go_simp
              refine (CM.out _).mono ?_
              rintro e w9 ⟨rfl, rfl⟩
              exact ⟨_, rfl, Fr.refl _ _, rfl, trivial⟩
            · have h17 : u 17 = _ := hR 17 (by kernel_rfl)
              have h13 : u 13 = _ := hR 13 (by kernel_rfl)
              clear hR k1 k0 kM
              simp only [h17, h13]
              refine .inl ⟨by kernel_rfl, ?_⟩
              have q := HMX.out
              go_simp
              exact ⟨_, rfl, Fr.refl _ _, rfl, trivial⟩
            · have h15 : u 15 = _ := hR 15 (by kernel_rfl)
              have h18 : u 18 = _ := hR 18 (by kernel_rfl)
              have h13 : u 13 = _ := hR 13 (by kernel_rfl)
              clear hR k1 k0 kM
              simp only [h15, h18, h13]
              refine .inl ⟨by kernel_rfl, ?_⟩
              go_simp
              exact ⟨_, rfl, Fr.refl _ _, rfl, trivial⟩
            · have h13 : u 13 = _ := hR 13 (by kernel_rfl)
              have h19 : u 19 = _ := hR 19 (by kernel_rfl)
              clear hR k1 k0 kM
              simp only [h13, h19]
              refine .inl ⟨by kernel_rfl, ?_⟩
              go_simp
              exact ⟨_, rfl, Fr.refl _ _, rfl, trivial⟩
            · have h20 : u 20 = _ := hR 20 (by kernel_rfl)
              clear hR k1 k0 kM
              simp only [h20]
              refine .inl ⟨by kernel_rfl, ?_⟩
              go_simp
              exact ⟨_, rfl, Fr.refl _ _, rfl, trivial⟩
          · intro u w' hf hR kM
            have k21 : u 21 = _ := hR 21 (by omega)
            clear hR kM
            simp only [List.take_succ_cons, List.take_zero, List.map_cons, List.map_nil, puts, Act.put, List.setIfInBounds_toArray, List.set_cons_zero, List.set_cons_succ, List.drop_succ_cons, List.drop_zero, Nat.reduceAdd, Nat.zero_add, k21]
            have FA := Lib.hid (F4.out.trans hf)
            have m4 := hf.cellSome n4.out (fun x => x)
            clear hf k21 n2 n3 n4
            go_wp2_with fail
            refine (CT.out _).mono ?_
            rintro e w9 ⟨rfl, rfl⟩
            go_wp2
            go_ret
            refine ⟨_, rfl, ?_, FA.out⟩
            rw [HOK.out]
            rw [okUs]
            simp only [He_nu.out, He_ix.out, He_tx.out, Hv1.out]
            simp
    · have He_ix := Lib.hid e_ix
      have t_e_ix := bne0 e_ix
      clear e_ix
      go_wp2
      go_ret
      refine ⟨_, rfl, ?_, F1.out⟩
      rw [HOK.out]
      simp [okUs, He_ix.out]
  · have He_nu := Lib.hid e_nu
    have t_e_nu := bne0 e_nu
    clear e_nu
    go_wp2
    go_ret
    refine ⟨_, rfl, ?_, F1.out⟩
    rw [HOK.out]
    simp [okUs, He_nu.out]
set_option maxRecDepth 100000 in
set_option maxHeartbeats 8000000 in
theorem rCheck_1010 (k : Nat) (ow : ByteArray) (nu ix : Int) (tx wd : ByteArray) (mo : Int) (w : World) (hk : 1 ≤ k ∧ k ≤ 20) (hu : usaL[k]? = some ⟨wd, true, false, true, false, mo⟩) (ho : ow.size ≤ 1099511627776) (ht : tx.size ≤ 1099511627776) (hmo : 0 ≤ mo) :
    Calls Tryd.prog 80 #[.agg #[.int .i64 (k : Int), .string ow, .int .i64 nu, .int .i64 ix, .string tx]] w (Checked w ⟨(k : Int), ow, nu, ix, tx⟩) := by
  have HOK : Hid (okNm ⟨(k : Int), ow, nu, ix, tx⟩ = okUs ⟨wd, true, false, true, false, mo⟩ ⟨(k : Int), ow, nu, ix, tx⟩) := by
    simp only [Hid, okNm, Int.toNat_natCast, hu]
    rw [decide_eq_true (show (1 : Int) ≤ (k : Int) by omega), decide_eq_true (show (k : Int) ≤ 20 by omega)]
    rfl
  have HOW := Lib.hid ho
  have HTX := Lib.hid ht
  have CO : Hid (∀ w, Calls Tryd.prog 97 #[.int .i64 (k : Int)] w (SameW w (.bool true))) := fun w => rOwned_any k _ w hk hu
  have CN : Hid (∀ w, Calls Tryd.prog 99 #[.int .i64 (k : Int)] w (SameW w (.bool false))) := fun w => rNumbered_any k _ w hk hu
  have CT : Hid (∀ w, Calls Tryd.prog 101 #[.int .i64 (k : Int)] w (SameW w (.bool false))) := fun w => rTexted_any k _ w hk hu
  obtain ⟨mq, hmq⟩ : ∃ mq : Int, mq = (if true = true then mo else -1) := ⟨_, rfl⟩
  have CM : Hid (∀ w, Calls Tryd.prog 100 #[.int .i64 (k : Int)] w (SameW w (.int .i64 mq))) := fun w => by rw [hmq]; exact rMost_any k _ w hk hu
  have hmq2 : mq = mo := by rw [hmq]; simp
  have tq : decide (mq < 0) = false := decide_eq_false (by omega)
  have HMX : Hid (max mq 0 = mo) := by simp only [Hid]; omega
  have k1 : decide ((k : Int) < 1) = false := decide_eq_false (by omega)
  have k1' : ¬ (k : Int) < 1 := by omega
  have k2 : decide ((20 : Int) < (k : Int)) = false := decide_eq_false (by omega)
  have k2' : ¬ (20 : Int) < (k : Int) := by omega
  clear hk hu ho ht hmq hmq2
  go_enter Tryd.func80, Tryd.ntmps80
  go_wp2_with (refine wpList_boxBlk rfl 40 (.tmp 0) rfl #[.int .i64 (k : Int), .string ow, .int .i64 nu, .int .i64 ix, .string tx] rfl ?_)
  intro w1 n1
  have F1 := Lib.hid n1.fr
  have NB := Lib.hid n1.blk
  have c0 : w1.cell? ⟨w.heap.size, 0, none⟩ = some (.int .i64 (k : Int)) := n1.blk.cell 0
  have c1 : w1.cell? ⟨w.heap.size, 1, none⟩ = some (.string ow) := n1.blk.cell 1
  have c2 : w1.cell? ⟨w.heap.size, 2, none⟩ = some (.int .i64 nu) := n1.blk.cell 2
  have c3 : w1.cell? ⟨w.heap.size, 3, none⟩ = some (.int .i64 ix) := n1.blk.cell 3
  have c4 : w1.cell? ⟨w.heap.size, 4, none⟩ = some (.string tx) := n1.blk.cell 4
  clear n1
  generalize w.heap.size = gb at *
  go_wp2_with fail
  refine (CO.out _).mono ?_
  rintro e w9 ⟨rfl, rfl⟩
  go_wp2_with fail
  refine (CN.out _).mono ?_
  rintro e w9 ⟨rfl, rfl⟩
  by_cases e_nu : nu = 0
  · have He_nu := Lib.hid e_nu
    have t_e_nu := beq0 e_nu
    clear e_nu
    go_wp2_with fail
    refine (CM.out _).mono ?_
    rintro e w9 ⟨rfl, rfl⟩
    go_wp2_with fail
    refine (CT.out _).mono ?_
    rintro e w9 ⟨rfl, rfl⟩
    cases e_tx : tx.toList.isEmpty
    · have He_tx := Lib.hid e_tx
      go_wp2
      go_ret
      refine ⟨_, rfl, ?_, F1.out⟩
      rw [HOK.out]
      simp [okUs, He_tx.out]
    · have He_tx := Lib.hid e_tx
      go_wp2_with fail
      refine (CO.out _).mono ?_
      rintro e w9 ⟨rfl, rfl⟩
      have K1 := Lib.hid (rValid_any ow w1 HOW.out)
      obtain ⟨v1, hv1⟩ : ∃ v1, validO ow = v1 := ⟨_, rfl⟩
      have Hv1 := Lib.hid hv1
      rw [hv1] at K1
      clear hv1
      go_wp2_with fail
      refine K1.out.mono ?_
      rintro e w4 ⟨rfl, f4⟩
      have F4 := Lib.hid (F1.out.trans f4)
      have n2 := Lib.hid (f4.cellSome c2 (fun x => x))
      have n3 := Lib.hid (f4.cellSome c3 (fun x => x))
      have n4 := Lib.hid (f4.cellSome c4 (fun x => x))
      clear f4 c0 c1 c2 c3 c4
      cases v1
      · go_wp2
        go_ret
        refine ⟨_, rfl, ?_, F4.out⟩
        rw [HOK.out]
        have hh := Hv1.out
        simp [okUs, hh]
      · have u0 : decide (nu < 0) = false := decide_eq_false (by have := He_nu.out; omega)
        have u1 : decide (1073741824 < nu) = false := decide_eq_false (by have := He_nu.out; omega)
        by_cases hi0 : ix < 0
        · have v0 : decide (ix < 0) = true := decide_eq_true hi0
          have V0 := Lib.hid hi0
          clear hi0
          go_upto_region 8 with fail
          refine wp_region_st 22 Nothing [Is (.pointer (some ⟨gb, 2, none⟩)), Is (.int .i64 nu), Is (.bool false), Is (.bool false), Is (.pointer (some ⟨gb, 2, none⟩)), Is (.int .i64 nu), Is (.bool false), Is (.bool false), Is (.bool false), Is (.pointer (some ⟨gb, 3, none⟩)), Is (.int .i64 ix), Is (.bool true), Is (.bool true), Is (.bool true), Is (undef), Is (undef), Is (undef), Is (undef), Is (undef), Is (undef), Is (.bool true), Is (.bool true)] [] (fun _ => True) (fun _ _ => false) (by kernel_rfl) (by kernel_rfl) (by kernel_rfl) (by kernel_rfl) ⟨Is.stable _, Is.stable _, Is.stable _, Is.stable _, Is.stable _, Is.stable _, Is.stable _, Is.stable _, Is.stable _, Is.stable _, Is.stable _, Is.stable _, Is.stable _, Is.stable _, Is.stable _, Is.stable _, Is.stable _, Is.stable _, Is.stable _, Is.stable _, Is.stable _, Is.stable _, trivial⟩ trivial (fun _ _ _ _ h => h) trivial ?_ ?_
          · refine ⟨fun u w' d hf hR k1 k0 kM => ?_, fun u w' d hf hR k1 k0 kM => ?_, fun u w' d hf hR k1 k0 kM => ?_, fun u w' d hf hR k1 k0 kM => ?_, fun u w' d hf hR k1 k0 kM => ?_, fun u w' d hf hR k1 k0 kM => ?_, fun u w' d hf hR k1 k0 kM => ?_, fun u w' d hf hR k1 k0 kM => ?_, fun u w' d hf hR k1 k0 kM => ?_, fun u w' d hf hR k1 k0 kM => ?_, fun u w' d hf hR k1 k0 kM => ?_, fun u w' d hf hR k1 k0 kM => ?_, fun u w' d hf hR k1 k0 kM => ?_, fun u w' d hf hR k1 k0 kM => ?_, fun u w' d hf hR k1 k0 kM => ?_, fun u w' d hf hR k1 k0 kM => ?_, fun u w' d hf hR k1 k0 kM => ?_, fun u w' d hf hR k1 k0 kM => ?_, fun u w' d hf hR k1 k0 kM => ?_, fun u w' d hf hR k1 k0 kM => ?_, fun u w' d hf hR k1 k0 kM => ?_, fun u w' d hf hR k1 k0 kM => ?_, trivial⟩
            all_goals simp only [List.take_succ_cons, List.take_zero, List.map_cons, List.map_nil, puts, Act.put, List.setIfInBounds_toArray, List.set_cons_zero, List.set_cons_succ, Nat.reduceAdd, Nat.zero_add]
            · clear hR k1 k0 kM
              refine .inl ⟨by kernel_rfl, ?_⟩
              go_simp
              exact ⟨_, rfl, Fr.refl _ _, rfl, trivial⟩
            · have h0 : u 0 = _ := hR 0 (by kernel_rfl)
              clear hR k1 k0 kM
              simp only [h0]
              refine .inl ⟨by kernel_rfl, ?_⟩
              have q := hf.cellSome (n2.out) (fun x => x)
              go_simp
              exact ⟨_, rfl, Fr.refl _ _, rfl, trivial⟩
            · have h1 : u 1 = _ := hR 1 (by kernel_rfl)
              clear hR k1 k0 kM
              simp only [h1]
              refine .inl ⟨by kernel_rfl, ?_⟩
              go_simp
              exact ⟨_, rfl, Fr.refl _ _, rfl, trivial⟩
            · have h2 : u 2 = _ := hR 2 (by kernel_rfl)
              clear hR k1 k0 kM
              simp only [h2]
              refine .inl ⟨by kernel_rfl, ?_⟩
              go_simp
              exact ⟨_, rfl, Fr.refl _ _, rfl, trivial⟩
            · have h3 : u 3 = _ := hR 3 (by kernel_rfl)
              clear hR k1 k0 kM
              simp only [h3]
              refine .inl ⟨by kernel_rfl, ?_⟩
              go_simp
              exact ⟨_, rfl, Fr.refl _ _, rfl, trivial⟩
            · have h4 : u 4 = _ := hR 4 (by kernel_rfl)
              have h3 : u 3 = _ := hR 3 (by kernel_rfl)
              clear hR k1 k0 kM
              simp only [h4, h3]
              refine .inl ⟨by kernel_rfl, ?_⟩
              have q := hf.cellSome (n2.out) (fun x => x)
              go_simp
              exact ⟨_, rfl, Fr.refl _ _, rfl, trivial⟩
            · have h5 : u 5 = _ := hR 5 (by kernel_rfl)
              have h3 : u 3 = _ := hR 3 (by kernel_rfl)
              clear hR k1 k0 kM
              simp only [h5, h3]
              refine .inl ⟨by kernel_rfl, ?_⟩
              go_simp
              exact ⟨_, rfl, Fr.refl _ _, rfl, trivial⟩
            · have h3 : u 3 = _ := hR 3 (by kernel_rfl)
              have h6 : u 6 = _ := hR 6 (by kernel_rfl)
              clear hR k1 k0 kM
              simp only [h3, h6]
              refine .inl ⟨by kernel_rfl, ?_⟩
              go_simp
              exact ⟨_, rfl, Fr.refl _ _, rfl, trivial⟩
            · have h7 : u 7 = _ := hR 7 (by kernel_rfl)
              clear hR k1 k0 kM
              simp only [h7]
              refine .inl ⟨by kernel_rfl, ?_⟩
              go_simp
              exact ⟨_, rfl, Fr.refl _ _, rfl, trivial⟩
            · have h8 : u 8 = _ := hR 8 (by kernel_rfl)
              clear hR k1 k0 kM
              simp only [h8]
              refine .inl ⟨by kernel_rfl, ?_⟩
              go_simp
              exact ⟨_, rfl, Fr.refl _ _, rfl, trivial⟩
            · have h9 : u 9 = _ := hR 9 (by kernel_rfl)
              have h8 : u 8 = _ := hR 8 (by kernel_rfl)
              clear hR k1 k0 kM
              simp only [h9, h8]
              refine .inl ⟨by kernel_rfl, ?_⟩
              have q := hf.cellSome (n3.out) (fun x => x)
              go_simp
              exact ⟨_, rfl, Fr.refl _ _, rfl, trivial⟩
            · have h10 : u 10 = _ := hR 10 (by kernel_rfl)
              have h8 : u 8 = _ := hR 8 (by kernel_rfl)
              clear hR k1 k0 kM
              simp only [h10, h8]
              refine .inl ⟨by kernel_rfl, ?_⟩
              go_simp
              exact ⟨_, rfl, Fr.refl _ _, rfl, trivial⟩
            · have h8 : u 8 = _ := hR 8 (by kernel_rfl)
              have h11 : u 11 = _ := hR 11 (by kernel_rfl)
              clear hR k1 k0 kM
              simp only [h8, h11]
              refine .inl ⟨by kernel_rfl, ?_⟩
              go_simp
              exact ⟨_, rfl, Fr.refl _ _, rfl, trivial⟩
            · have h12 : u 12 = _ := hR 12 (by kernel_rfl)
              clear hR k1 k0 kM
              simp only [h12]
              refine .inl ⟨by kernel_rfl, ?_⟩
              go_simp
              exact ⟨_, rfl, Fr.refl _ _, rfl, trivial⟩
            · have h13 : u 13 = _ := hR 13 (by kernel_rfl)
              clear hR k1 k0 kM
              simp only [h13]
              exact .inr ⟨by kernel_rfl, _, rfl, Fr.refl _ _, rfl, trivial⟩
            · have h13 : u 13 = _ := hR 13 (by kernel_rfl)
              clear hR k1 k0 kM
              simp only [h13]
              exact .inr ⟨by kernel_rfl, _, rfl, Fr.refl _ _, rfl, trivial⟩
            · have h13 : u 13 = _ := hR 13 (by kernel_rfl)
              clear hR k1 k0 kM
              simp only [h13]
              exact .inr ⟨by kernel_rfl, _, rfl, Fr.refl _ _, rfl, trivial⟩
            · have h13 : u 13 = _ := hR 13 (by kernel_rfl)
              clear hR k1 k0 kM
              simp only [h13]
              exact .inr ⟨by kernel_rfl, _, rfl, Fr.refl _ _, rfl, trivial⟩
            · have h13 : u 13 = _ := hR 13 (by kernel_rfl)
              clear hR k1 k0 kM
              simp only [h13]
              exact .inr ⟨by kernel_rfl, _, rfl, Fr.refl _ _, rfl, trivial⟩
            · have h13 : u 13 = _ := hR 13 (by kernel_rfl)
              clear hR k1 k0 kM
              simp only [h13]
              exact .inr ⟨by kernel_rfl, _, rfl, Fr.refl _ _, rfl, trivial⟩
            · have h13 : u 13 = _ := hR 13 (by kernel_rfl)
              have h19 : u 19 = _ := hR 19 (by kernel_rfl)
              clear hR k1 k0 kM
              simp only [h13, h19]
              refine .inl ⟨by kernel_rfl, ?_⟩
              go_simp
              exact ⟨_, rfl, Fr.refl _ _, rfl, trivial⟩
            · have h20 : u 20 = _ := hR 20 (by kernel_rfl)
              clear hR k1 k0 kM
              simp only [h20]
              refine .inl ⟨by kernel_rfl, ?_⟩
              go_simp
              exact ⟨_, rfl, Fr.refl _ _, rfl, trivial⟩
          · intro u w' hf hR kM
            have k21 : u 21 = _ := hR 21 (by omega)
            clear hR kM
            simp only [List.take_succ_cons, List.take_zero, List.map_cons, List.map_nil, puts, Act.put, List.setIfInBounds_toArray, List.set_cons_zero, List.set_cons_succ, List.drop_succ_cons, List.drop_zero, Nat.reduceAdd, Nat.zero_add, k21]
            have FA := Lib.hid (F4.out.trans hf)
            have m4 := hf.cellSome n4.out (fun x => x)
            clear hf k21 n2 n3 n4
            go_wp2
            go_ret
            refine ⟨_, rfl, ?_, FA.out⟩
            rw [HOK.out]
            have hh : (decide (0 ≤ ix) && decide (ix ≤ mo)) = false := by rw [decide_eq_false (by have := V0.out; omega)]; rfl
            rw [okUs]
            simp only [hh]
            simp
        have v0 : decide (ix < 0) = false := decide_eq_false hi0
        by_cases hi1 : mo < ix
        · have v1 : decide (mo < ix) = true := decide_eq_true hi1
          have V1 := Lib.hid hi1
          clear hi0 hi1
          go_upto_region 8 with fail
          refine wp_region_st 22 Nothing [Is (.pointer (some ⟨gb, 2, none⟩)), Is (.int .i64 nu), Is (.bool false), Is (.bool false), Is (.pointer (some ⟨gb, 2, none⟩)), Is (.int .i64 nu), Is (.bool false), Is (.bool false), Is (.bool false), Is (.pointer (some ⟨gb, 3, none⟩)), Is (.int .i64 ix), Is (.bool false), Is (.bool false), Is (.bool false), Is (.pointer (some ⟨gb, 3, none⟩)), Is (.int .i64 ix), Is (.int .i64 (k : Int)), Is (.int .i64 mq), Is (.int .i64 mo), Is (.bool true), Is (.bool true), Is (.bool true)] [] (fun _ => True) (fun _ _ => false) (by kernel_rfl) (by kernel_rfl) (by kernel_rfl) (by kernel_rfl) ⟨Is.stable _, Is.stable _, Is.stable _, Is.stable _, Is.stable _, Is.stable _, Is.stable _, Is.stable _, Is.stable _, Is.stable _, Is.stable _, Is.stable _, Is.stable _, Is.stable _, Is.stable _, Is.stable _, Is.stable _, Is.stable _, Is.stable _, Is.stable _, Is.stable _, Is.stable _, trivial⟩ trivial (fun _ _ _ _ h => h) trivial ?_ ?_
          · refine ⟨fun u w' d hf hR k1 k0 kM => ?_, fun u w' d hf hR k1 k0 kM => ?_, fun u w' d hf hR k1 k0 kM => ?_, fun u w' d hf hR k1 k0 kM => ?_, fun u w' d hf hR k1 k0 kM => ?_, fun u w' d hf hR k1 k0 kM => ?_, fun u w' d hf hR k1 k0 kM => ?_, fun u w' d hf hR k1 k0 kM => ?_, fun u w' d hf hR k1 k0 kM => ?_, fun u w' d hf hR k1 k0 kM => ?_, fun u w' d hf hR k1 k0 kM => ?_, fun u w' d hf hR k1 k0 kM => ?_, fun u w' d hf hR k1 k0 kM => ?_, fun u w' d hf hR k1 k0 kM => ?_, fun u w' d hf hR k1 k0 kM => ?_, fun u w' d hf hR k1 k0 kM => ?_, fun u w' d hf hR k1 k0 kM => ?_, fun u w' d hf hR k1 k0 kM => ?_, fun u w' d hf hR k1 k0 kM => ?_, fun u w' d hf hR k1 k0 kM => ?_, fun u w' d hf hR k1 k0 kM => ?_, fun u w' d hf hR k1 k0 kM => ?_, trivial⟩
            all_goals simp only [List.take_succ_cons, List.take_zero, List.map_cons, List.map_nil, puts, Act.put, List.setIfInBounds_toArray, List.set_cons_zero, List.set_cons_succ, Nat.reduceAdd, Nat.zero_add]
            · clear hR k1 k0 kM
              refine .inl ⟨by kernel_rfl, ?_⟩
              go_simp
              exact ⟨_, rfl, Fr.refl _ _, rfl, trivial⟩
            · have h0 : u 0 = _ := hR 0 (by kernel_rfl)
              clear hR k1 k0 kM
              simp only [h0]
              refine .inl ⟨by kernel_rfl, ?_⟩
              have q := hf.cellSome (n2.out) (fun x => x)
              go_simp
              exact ⟨_, rfl, Fr.refl _ _, rfl, trivial⟩
            · have h1 : u 1 = _ := hR 1 (by kernel_rfl)
              clear hR k1 k0 kM
              simp only [h1]
              refine .inl ⟨by kernel_rfl, ?_⟩
              go_simp
              exact ⟨_, rfl, Fr.refl _ _, rfl, trivial⟩
            · have h2 : u 2 = _ := hR 2 (by kernel_rfl)
              clear hR k1 k0 kM
              simp only [h2]
              refine .inl ⟨by kernel_rfl, ?_⟩
              go_simp
              exact ⟨_, rfl, Fr.refl _ _, rfl, trivial⟩
            · have h3 : u 3 = _ := hR 3 (by kernel_rfl)
              clear hR k1 k0 kM
              simp only [h3]
              refine .inl ⟨by kernel_rfl, ?_⟩
              go_simp
              exact ⟨_, rfl, Fr.refl _ _, rfl, trivial⟩
            · have h4 : u 4 = _ := hR 4 (by kernel_rfl)
              have h3 : u 3 = _ := hR 3 (by kernel_rfl)
              clear hR k1 k0 kM
              simp only [h4, h3]
              refine .inl ⟨by kernel_rfl, ?_⟩
              have q := hf.cellSome (n2.out) (fun x => x)
              go_simp
              exact ⟨_, rfl, Fr.refl _ _, rfl, trivial⟩
            · have h5 : u 5 = _ := hR 5 (by kernel_rfl)
              have h3 : u 3 = _ := hR 3 (by kernel_rfl)
              clear hR k1 k0 kM
              simp only [h5, h3]
              refine .inl ⟨by kernel_rfl, ?_⟩
              go_simp
              exact ⟨_, rfl, Fr.refl _ _, rfl, trivial⟩
            · have h3 : u 3 = _ := hR 3 (by kernel_rfl)
              have h6 : u 6 = _ := hR 6 (by kernel_rfl)
              clear hR k1 k0 kM
              simp only [h3, h6]
              refine .inl ⟨by kernel_rfl, ?_⟩
              go_simp
              exact ⟨_, rfl, Fr.refl _ _, rfl, trivial⟩
            · have h7 : u 7 = _ := hR 7 (by kernel_rfl)
              clear hR k1 k0 kM
              simp only [h7]
              refine .inl ⟨by kernel_rfl, ?_⟩
              go_simp
              exact ⟨_, rfl, Fr.refl _ _, rfl, trivial⟩
            · have h8 : u 8 = _ := hR 8 (by kernel_rfl)
              clear hR k1 k0 kM
              simp only [h8]
              refine .inl ⟨by kernel_rfl, ?_⟩
              go_simp
              exact ⟨_, rfl, Fr.refl _ _, rfl, trivial⟩
            · have h9 : u 9 = _ := hR 9 (by kernel_rfl)
              have h8 : u 8 = _ := hR 8 (by kernel_rfl)
              clear hR k1 k0 kM
              simp only [h9, h8]
              refine .inl ⟨by kernel_rfl, ?_⟩
              have q := hf.cellSome (n3.out) (fun x => x)
              go_simp
              exact ⟨_, rfl, Fr.refl _ _, rfl, trivial⟩
            · have h10 : u 10 = _ := hR 10 (by kernel_rfl)
              have h8 : u 8 = _ := hR 8 (by kernel_rfl)
              clear hR k1 k0 kM
              simp only [h10, h8]
              refine .inl ⟨by kernel_rfl, ?_⟩
              go_simp
              exact ⟨_, rfl, Fr.refl _ _, rfl, trivial⟩
            · have h8 : u 8 = _ := hR 8 (by kernel_rfl)
              have h11 : u 11 = _ := hR 11 (by kernel_rfl)
              clear hR k1 k0 kM
              simp only [h8, h11]
              refine .inl ⟨by kernel_rfl, ?_⟩
              go_simp
              exact ⟨_, rfl, Fr.refl _ _, rfl, trivial⟩
            · have h12 : u 12 = _ := hR 12 (by kernel_rfl)
              clear hR k1 k0 kM
              simp only [h12]
              refine .inl ⟨by kernel_rfl, ?_⟩
              go_simp
              exact ⟨_, rfl, Fr.refl _ _, rfl, trivial⟩
            · have h13 : u 13 = _ := hR 13 (by kernel_rfl)
              clear hR k1 k0 kM
              simp only [h13]
              refine .inl ⟨by kernel_rfl, ?_⟩
              go_simp
              exact ⟨_, rfl, Fr.refl _ _, rfl, trivial⟩
            · have h14 : u 14 = _ := hR 14 (by kernel_rfl)
              have h13 : u 13 = _ := hR 13 (by kernel_rfl)
              clear hR k1 k0 kM
              simp only [h14, h13]
              refine .inl ⟨by kernel_rfl, ?_⟩
              have q := hf.cellSome (n3.out) (fun x => x)
              go_simp
              exact ⟨_, rfl, Fr.refl _ _, rfl, trivial⟩
            · have h13 : u 13 = _ := hR 13 (by kernel_rfl)
              clear hR k1 k0 kM
              simp only [h13]
              refine .inl ⟨by kernel_rfl, ?_⟩
              go_simp
              exact ⟨_, rfl, Fr.refl _ _, rfl, trivial⟩
            · have h16 : u 16 = _ := hR 16 (by kernel_rfl)
              have h13 : u 13 = _ := hR 13 (by kernel_rfl)
              clear hR k1 k0 kM
              simp only [h16, h13]
              refine .inl ⟨by kernel_rfl, ?_⟩
              go_simp
              refine (CM.out _).mono ?_
              rintro e w9 ⟨rfl, rfl⟩
              exact ⟨_, rfl, Fr.refl _ _, rfl, trivial⟩
            · have h17 : u 17 = _ := hR 17 (by kernel_rfl)
              have h13 : u 13 = _ := hR 13 (by kernel_rfl)
              clear hR k1 k0 kM
              simp only [h17, h13]
              refine .inl ⟨by kernel_rfl, ?_⟩
              have q := HMX.out
              go_simp
              exact ⟨_, rfl, Fr.refl _ _, rfl, trivial⟩
            · have h15 : u 15 = _ := hR 15 (by kernel_rfl)
              have h18 : u 18 = _ := hR 18 (by kernel_rfl)
              have h13 : u 13 = _ := hR 13 (by kernel_rfl)
              clear hR k1 k0 kM
              simp only [h15, h18, h13]
              refine .inl ⟨by kernel_rfl, ?_⟩
              go_simp
              exact ⟨_, rfl, Fr.refl _ _, rfl, trivial⟩
            · have h13 : u 13 = _ := hR 13 (by kernel_rfl)
              have h19 : u 19 = _ := hR 19 (by kernel_rfl)
              clear hR k1 k0 kM
              simp only [h13, h19]
              refine .inl ⟨by kernel_rfl, ?_⟩
              go_simp
              exact ⟨_, rfl, Fr.refl _ _, rfl, trivial⟩
            · have h20 : u 20 = _ := hR 20 (by kernel_rfl)
              clear hR k1 k0 kM
              simp only [h20]
              refine .inl ⟨by kernel_rfl, ?_⟩
              go_simp
              exact ⟨_, rfl, Fr.refl _ _, rfl, trivial⟩
          · intro u w' hf hR kM
            have k21 : u 21 = _ := hR 21 (by omega)
            clear hR kM
            simp only [List.take_succ_cons, List.take_zero, List.map_cons, List.map_nil, puts, Act.put, List.setIfInBounds_toArray, List.set_cons_zero, List.set_cons_succ, List.drop_succ_cons, List.drop_zero, Nat.reduceAdd, Nat.zero_add, k21]
            have FA := Lib.hid (F4.out.trans hf)
            have m4 := hf.cellSome n4.out (fun x => x)
            clear hf k21 n2 n3 n4
            go_wp2
            go_ret
            refine ⟨_, rfl, ?_, FA.out⟩
            rw [HOK.out]
            have hh : (decide (0 ≤ ix) && decide (ix ≤ mo)) = false := by rw [decide_eq_false (show ¬ ix ≤ mo by have := V1.out; omega)]; simp
            rw [okUs]
            simp only [hh]
            simp
        have v1 : decide (mo < ix) = false := decide_eq_false hi1
        have HIX : Hid ((decide (0 ≤ ix) && decide (ix ≤ mo)) = true) := by simp only [Hid]; rw [decide_eq_true (show 0 ≤ ix by omega), decide_eq_true (show ix ≤ mo by omega)]; rfl
        clear hi0 hi1
        go_upto_region 8 with fail
        refine wp_region_st 22 Nothing [Is (.pointer (some ⟨gb, 2, none⟩)), Is (.int .i64 nu), Is (.bool false), Is (.bool false), Is (.pointer (some ⟨gb, 2, none⟩)), Is (.int .i64 nu), Is (.bool false), Is (.bool false), Is (.bool false), Is (.pointer (some ⟨gb, 3, none⟩)), Is (.int .i64 ix), Is (.bool false), Is (.bool false), Is (.bool false), Is (.pointer (some ⟨gb, 3, none⟩)), Is (.int .i64 ix), Is (.int .i64 (k : Int)), Is (.int .i64 mq), Is (.int .i64 mo), Is (.bool false), Is (.bool false), Is (.bool false)] [] (fun _ => True) (fun _ _ => false) (by kernel_rfl) (by kernel_rfl) (by kernel_rfl) (by kernel_rfl) ⟨Is.stable _, Is.stable _, Is.stable _, Is.stable _, Is.stable _, Is.stable _, Is.stable _, Is.stable _, Is.stable _, Is.stable _, Is.stable _, Is.stable _, Is.stable _, Is.stable _, Is.stable _, Is.stable _, Is.stable _, Is.stable _, Is.stable _, Is.stable _, Is.stable _, Is.stable _, trivial⟩ trivial (fun _ _ _ _ h => h) trivial ?_ ?_
        · refine ⟨fun u w' d hf hR k1 k0 kM => ?_, fun u w' d hf hR k1 k0 kM => ?_, fun u w' d hf hR k1 k0 kM => ?_, fun u w' d hf hR k1 k0 kM => ?_, fun u w' d hf hR k1 k0 kM => ?_, fun u w' d hf hR k1 k0 kM => ?_, fun u w' d hf hR k1 k0 kM => ?_, fun u w' d hf hR k1 k0 kM => ?_, fun u w' d hf hR k1 k0 kM => ?_, fun u w' d hf hR k1 k0 kM => ?_, fun u w' d hf hR k1 k0 kM => ?_, fun u w' d hf hR k1 k0 kM => ?_, fun u w' d hf hR k1 k0 kM => ?_, fun u w' d hf hR k1 k0 kM => ?_, fun u w' d hf hR k1 k0 kM => ?_, fun u w' d hf hR k1 k0 kM => ?_, fun u w' d hf hR k1 k0 kM => ?_, fun u w' d hf hR k1 k0 kM => ?_, fun u w' d hf hR k1 k0 kM => ?_, fun u w' d hf hR k1 k0 kM => ?_, fun u w' d hf hR k1 k0 kM => ?_, fun u w' d hf hR k1 k0 kM => ?_, trivial⟩
          all_goals simp only [List.take_succ_cons, List.take_zero, List.map_cons, List.map_nil, puts, Act.put, List.setIfInBounds_toArray, List.set_cons_zero, List.set_cons_succ, Nat.reduceAdd, Nat.zero_add]
          · clear hR k1 k0 kM
            refine .inl ⟨by kernel_rfl, ?_⟩
            go_simp
            exact ⟨_, rfl, Fr.refl _ _, rfl, trivial⟩
          · have h0 : u 0 = _ := hR 0 (by kernel_rfl)
            clear hR k1 k0 kM
            simp only [h0]
            refine .inl ⟨by kernel_rfl, ?_⟩
            have q := hf.cellSome (n2.out) (fun x => x)
            go_simp
            exact ⟨_, rfl, Fr.refl _ _, rfl, trivial⟩
          · have h1 : u 1 = _ := hR 1 (by kernel_rfl)
            clear hR k1 k0 kM
            simp only [h1]
            refine .inl ⟨by kernel_rfl, ?_⟩
            go_simp
            exact ⟨_, rfl, Fr.refl _ _, rfl, trivial⟩
          · have h2 : u 2 = _ := hR 2 (by kernel_rfl)
            clear hR k1 k0 kM
            simp only [h2]
            refine .inl ⟨by kernel_rfl, ?_⟩
            go_simp
            exact ⟨_, rfl, Fr.refl _ _, rfl, trivial⟩
          · have h3 : u 3 = _ := hR 3 (by kernel_rfl)
            clear hR k1 k0 kM
            simp only [h3]
            refine .inl ⟨by kernel_rfl, ?_⟩
            go_simp
            exact ⟨_, rfl, Fr.refl _ _, rfl, trivial⟩
          · have h4 : u 4 = _ := hR 4 (by kernel_rfl)
            have h3 : u 3 = _ := hR 3 (by kernel_rfl)
            clear hR k1 k0 kM
            simp only [h4, h3]
            refine .inl ⟨by kernel_rfl, ?_⟩
            have q := hf.cellSome (n2.out) (fun x => x)
            go_simp
            exact ⟨_, rfl, Fr.refl _ _, rfl, trivial⟩
          · have h5 : u 5 = _ := hR 5 (by kernel_rfl)
            have h3 : u 3 = _ := hR 3 (by kernel_rfl)
            clear hR k1 k0 kM
            simp only [h5, h3]
            refine .inl ⟨by kernel_rfl, ?_⟩
            go_simp
            exact ⟨_, rfl, Fr.refl _ _, rfl, trivial⟩
          · have h3 : u 3 = _ := hR 3 (by kernel_rfl)
            have h6 : u 6 = _ := hR 6 (by kernel_rfl)
            clear hR k1 k0 kM
            simp only [h3, h6]
            refine .inl ⟨by kernel_rfl, ?_⟩
            go_simp
            exact ⟨_, rfl, Fr.refl _ _, rfl, trivial⟩
          · have h7 : u 7 = _ := hR 7 (by kernel_rfl)
            clear hR k1 k0 kM
            simp only [h7]
            refine .inl ⟨by kernel_rfl, ?_⟩
            go_simp
            exact ⟨_, rfl, Fr.refl _ _, rfl, trivial⟩
          · have h8 : u 8 = _ := hR 8 (by kernel_rfl)
            clear hR k1 k0 kM
            simp only [h8]
            refine .inl ⟨by kernel_rfl, ?_⟩
            go_simp
            exact ⟨_, rfl, Fr.refl _ _, rfl, trivial⟩
          · have h9 : u 9 = _ := hR 9 (by kernel_rfl)
            have h8 : u 8 = _ := hR 8 (by kernel_rfl)
            clear hR k1 k0 kM
            simp only [h9, h8]
            refine .inl ⟨by kernel_rfl, ?_⟩
            have q := hf.cellSome (n3.out) (fun x => x)
            go_simp
            exact ⟨_, rfl, Fr.refl _ _, rfl, trivial⟩
          · have h10 : u 10 = _ := hR 10 (by kernel_rfl)
            have h8 : u 8 = _ := hR 8 (by kernel_rfl)
            clear hR k1 k0 kM
            simp only [h10, h8]
            refine .inl ⟨by kernel_rfl, ?_⟩
            go_simp
            exact ⟨_, rfl, Fr.refl _ _, rfl, trivial⟩
          · have h8 : u 8 = _ := hR 8 (by kernel_rfl)
            have h11 : u 11 = _ := hR 11 (by kernel_rfl)
            clear hR k1 k0 kM
            simp only [h8, h11]
            refine .inl ⟨by kernel_rfl, ?_⟩
            go_simp
            exact ⟨_, rfl, Fr.refl _ _, rfl, trivial⟩
          · have h12 : u 12 = _ := hR 12 (by kernel_rfl)
            clear hR k1 k0 kM
            simp only [h12]
            refine .inl ⟨by kernel_rfl, ?_⟩
            go_simp
            exact ⟨_, rfl, Fr.refl _ _, rfl, trivial⟩
          · have h13 : u 13 = _ := hR 13 (by kernel_rfl)
            clear hR k1 k0 kM
            simp only [h13]
            refine .inl ⟨by kernel_rfl, ?_⟩
            go_simp
            exact ⟨_, rfl, Fr.refl _ _, rfl, trivial⟩
          · have h14 : u 14 = _ := hR 14 (by kernel_rfl)
            have h13 : u 13 = _ := hR 13 (by kernel_rfl)
            clear hR k1 k0 kM
            simp only [h14, h13]
            refine .inl ⟨by kernel_rfl, ?_⟩
            have q := hf.cellSome (n3.out) (fun x => x)
            go_simp
            exact ⟨_, rfl, Fr.refl _ _, rfl, trivial⟩
          · have h13 : u 13 = _ := hR 13 (by kernel_rfl)
            clear hR k1 k0 kM
            simp only [h13]
            refine .inl ⟨by kernel_rfl, ?_⟩
            go_simp
            exact ⟨_, rfl, Fr.refl _ _, rfl, trivial⟩
          · have h16 : u 16 = _ := hR 16 (by kernel_rfl)
            have h13 : u 13 = _ := hR 13 (by kernel_rfl)
            clear hR k1 k0 kM
            simp only [h16, h13]
            refine .inl ⟨by kernel_rfl, ?_⟩
            go_simp
            refine (CM.out _).mono ?_
            rintro e w9 ⟨rfl, rfl⟩
            exact ⟨_, rfl, Fr.refl _ _, rfl, trivial⟩
          · have h17 : u 17 = _ := hR 17 (by kernel_rfl)
            have h13 : u 13 = _ := hR 13 (by kernel_rfl)
            clear hR k1 k0 kM
            simp only [h17, h13]
            refine .inl ⟨by kernel_rfl, ?_⟩
            have q := HMX.out
            go_simp
            exact ⟨_, rfl, Fr.refl _ _, rfl, trivial⟩
          · have h15 : u 15 = _ := hR 15 (by kernel_rfl)
            have h18 : u 18 = _ := hR 18 (by kernel_rfl)
            have h13 : u 13 = _ := hR 13 (by kernel_rfl)
            clear hR k1 k0 kM
            simp only [h15, h18, h13]
            refine .inl ⟨by kernel_rfl, ?_⟩
            go_simp
            exact ⟨_, rfl, Fr.refl _ _, rfl, trivial⟩
          · have h13 : u 13 = _ := hR 13 (by kernel_rfl)
            have h19 : u 19 = _ := hR 19 (by kernel_rfl)
            clear hR k1 k0 kM
            simp only [h13, h19]
            refine .inl ⟨by kernel_rfl, ?_⟩
            go_simp
            exact ⟨_, rfl, Fr.refl _ _, rfl, trivial⟩
          · have h20 : u 20 = _ := hR 20 (by kernel_rfl)
            clear hR k1 k0 kM
            simp only [h20]
            refine .inl ⟨by kernel_rfl, ?_⟩
            go_simp
            exact ⟨_, rfl, Fr.refl _ _, rfl, trivial⟩
        · intro u w' hf hR kM
          have k21 : u 21 = _ := hR 21 (by omega)
          clear hR kM
          simp only [List.take_succ_cons, List.take_zero, List.map_cons, List.map_nil, puts, Act.put, List.setIfInBounds_toArray, List.set_cons_zero, List.set_cons_succ, List.drop_succ_cons, List.drop_zero, Nat.reduceAdd, Nat.zero_add, k21]
          have FA := Lib.hid (F4.out.trans hf)
          have m4 := hf.cellSome n4.out (fun x => x)
          clear hf k21 n2 n3 n4
          go_wp2_with fail
          refine (CT.out _).mono ?_
          rintro e w9 ⟨rfl, rfl⟩
          go_wp2
          go_ret
          refine ⟨_, rfl, ?_, FA.out⟩
          rw [HOK.out]
          rw [okUs]
          simp only [He_nu.out, He_tx.out, Hv1.out, HIX.out]
          simp
  · have He_nu := Lib.hid e_nu
    have t_e_nu := bne0 e_nu
    clear e_nu
    go_wp2
    go_ret
    refine ⟨_, rfl, ?_, F1.out⟩
    rw [HOK.out]
    simp [okUs, He_nu.out]
set_option maxRecDepth 100000 in
set_option maxHeartbeats 8000000 in
theorem rCheck_1100 (k : Nat) (ow : ByteArray) (nu ix : Int) (tx wd : ByteArray) (mo : Int) (w : World) (hk : 1 ≤ k ∧ k ≤ 20) (hu : usaL[k]? = some ⟨wd, true, true, false, false, mo⟩) (ho : ow.size ≤ 1099511627776) (ht : tx.size ≤ 1099511627776) (_hmo : 0 ≤ mo) (hmo0 : mo = 0) :
    Calls Tryd.prog 80 #[.agg #[.int .i64 (k : Int), .string ow, .int .i64 nu, .int .i64 ix, .string tx]] w (Checked w ⟨(k : Int), ow, nu, ix, tx⟩) := by
  have HOK : Hid (okNm ⟨(k : Int), ow, nu, ix, tx⟩ = okUs ⟨wd, true, true, false, false, mo⟩ ⟨(k : Int), ow, nu, ix, tx⟩) := by
    simp only [Hid, okNm, Int.toNat_natCast, hu]
    rw [decide_eq_true (show (1 : Int) ≤ (k : Int) by omega), decide_eq_true (show (k : Int) ≤ 20 by omega)]
    rfl
  have HOW := Lib.hid ho
  have HTX := Lib.hid ht
  have CO : Hid (∀ w, Calls Tryd.prog 97 #[.int .i64 (k : Int)] w (SameW w (.bool true))) := fun w => rOwned_any k _ w hk hu
  have CN : Hid (∀ w, Calls Tryd.prog 99 #[.int .i64 (k : Int)] w (SameW w (.bool true))) := fun w => rNumbered_any k _ w hk hu
  have CT : Hid (∀ w, Calls Tryd.prog 101 #[.int .i64 (k : Int)] w (SameW w (.bool false))) := fun w => rTexted_any k _ w hk hu
  obtain ⟨mq, hmq⟩ : ∃ mq : Int, mq = (if false = true then mo else -1) := ⟨_, rfl⟩
  have CM : Hid (∀ w, Calls Tryd.prog 100 #[.int .i64 (k : Int)] w (SameW w (.int .i64 mq))) := fun w => by rw [hmq]; exact rMost_any k _ w hk hu
  have hmq2 : mq = -1 := by rw [hmq]; simp
  have tq : decide (mq < 0) = true := decide_eq_true (by omega)
  have HMX : Hid (max mq 0 = mo) := by simp only [Hid]; omega
  have k1 : decide ((k : Int) < 1) = false := decide_eq_false (by omega)
  have k1' : ¬ (k : Int) < 1 := by omega
  have k2 : decide ((20 : Int) < (k : Int)) = false := decide_eq_false (by omega)
  have k2' : ¬ (20 : Int) < (k : Int) := by omega
  clear hk hu ho ht hmq hmq2
  go_enter Tryd.func80, Tryd.ntmps80
  go_wp2_with (refine wpList_boxBlk rfl 40 (.tmp 0) rfl #[.int .i64 (k : Int), .string ow, .int .i64 nu, .int .i64 ix, .string tx] rfl ?_)
  intro w1 n1
  have F1 := Lib.hid n1.fr
  have NB := Lib.hid n1.blk
  have c0 : w1.cell? ⟨w.heap.size, 0, none⟩ = some (.int .i64 (k : Int)) := n1.blk.cell 0
  have c1 : w1.cell? ⟨w.heap.size, 1, none⟩ = some (.string ow) := n1.blk.cell 1
  have c2 : w1.cell? ⟨w.heap.size, 2, none⟩ = some (.int .i64 nu) := n1.blk.cell 2
  have c3 : w1.cell? ⟨w.heap.size, 3, none⟩ = some (.int .i64 ix) := n1.blk.cell 3
  have c4 : w1.cell? ⟨w.heap.size, 4, none⟩ = some (.string tx) := n1.blk.cell 4
  clear n1
  generalize w.heap.size = gb at *
  go_wp2_with fail
  refine (CO.out _).mono ?_
  rintro e w9 ⟨rfl, rfl⟩
  go_wp2_with fail
  refine (CN.out _).mono ?_
  rintro e w9 ⟨rfl, rfl⟩
  go_wp2_with fail
  refine (CM.out _).mono ?_
  rintro e w9 ⟨rfl, rfl⟩
  by_cases e_ix : ix = 0
  · have He_ix := Lib.hid e_ix
    have t_e_ix := beq0 e_ix
    clear e_ix
    go_wp2_with fail
    refine (CT.out _).mono ?_
    rintro e w9 ⟨rfl, rfl⟩
    cases e_tx : tx.toList.isEmpty
    · have He_tx := Lib.hid e_tx
      go_wp2
      go_ret
      refine ⟨_, rfl, ?_, F1.out⟩
      rw [HOK.out]
      simp [okUs, He_tx.out]
    · have He_tx := Lib.hid e_tx
      go_wp2_with fail
      refine (CO.out _).mono ?_
      rintro e w9 ⟨rfl, rfl⟩
      have K1 := Lib.hid (rValid_any ow w1 HOW.out)
      obtain ⟨v1, hv1⟩ : ∃ v1, validO ow = v1 := ⟨_, rfl⟩
      have Hv1 := Lib.hid hv1
      rw [hv1] at K1
      clear hv1
      go_wp2_with fail
      refine K1.out.mono ?_
      rintro e w4 ⟨rfl, f4⟩
      have F4 := Lib.hid (F1.out.trans f4)
      have n2 := Lib.hid (f4.cellSome c2 (fun x => x))
      have n3 := Lib.hid (f4.cellSome c3 (fun x => x))
      have n4 := Lib.hid (f4.cellSome c4 (fun x => x))
      clear f4 c0 c1 c2 c3 c4
      cases v1
      · go_wp2
        go_ret
        refine ⟨_, rfl, ?_, F4.out⟩
        rw [HOK.out]
        have hh := Hv1.out
        simp [okUs, hh]
      · by_cases hn0 : nu < 0
        · have u0 : decide (nu < 0) = true := decide_eq_true hn0
          have U0 := Lib.hid hn0
          clear hn0
          go_upto_region 8 with fail
          refine wp_region_st 22 Nothing [Is (.pointer (some ⟨gb, 2, none⟩)), Is (.int .i64 nu), Is (.bool true), Is (.bool true), Is (undef), Is (undef), Is (undef), Is (.bool true), Is (.bool true), Is (undef), Is (undef), Is (undef), Is (.bool true), Is (.bool true), Is (undef), Is (undef), Is (undef), Is (undef), Is (undef), Is (undef), Is (.bool true), Is (.bool true)] [] (fun _ => True) (fun _ _ => false) (by kernel_rfl) (by kernel_rfl) (by kernel_rfl) (by kernel_rfl) ⟨Is.stable _, Is.stable _, Is.stable _, Is.stable _, Is.stable _, Is.stable _, Is.stable _, Is.stable _, Is.stable _, Is.stable _, Is.stable _, Is.stable _, Is.stable _, Is.stable _, Is.stable _, Is.stable _, Is.stable _, Is.stable _, Is.stable _, Is.stable _, Is.stable _, Is.stable _, trivial⟩ trivial (fun _ _ _ _ h => h) trivial ?_ ?_
          · refine ⟨fun u w' d hf hR k1 k0 kM => ?_, fun u w' d hf hR k1 k0 kM => ?_, fun u w' d hf hR k1 k0 kM => ?_, fun u w' d hf hR k1 k0 kM => ?_, fun u w' d hf hR k1 k0 kM => ?_, fun u w' d hf hR k1 k0 kM => ?_, fun u w' d hf hR k1 k0 kM => ?_, fun u w' d hf hR k1 k0 kM => ?_, fun u w' d hf hR k1 k0 kM => ?_, fun u w' d hf hR k1 k0 kM => ?_, fun u w' d hf hR k1 k0 kM => ?_, fun u w' d hf hR k1 k0 kM => ?_, fun u w' d hf hR k1 k0 kM => ?_, fun u w' d hf hR k1 k0 kM => ?_, fun u w' d hf hR k1 k0 kM => ?_, fun u w' d hf hR k1 k0 kM => ?_, fun u w' d hf hR k1 k0 kM => ?_, fun u w' d hf hR k1 k0 kM => ?_, fun u w' d hf hR k1 k0 kM => ?_, fun u w' d hf hR k1 k0 kM => ?_, fun u w' d hf hR k1 k0 kM => ?_, fun u w' d hf hR k1 k0 kM => ?_, trivial⟩
            all_goals simp only [List.take_succ_cons, List.take_zero, List.map_cons, List.map_nil, puts, Act.put, List.setIfInBounds_toArray, List.set_cons_zero, List.set_cons_succ, Nat.reduceAdd, Nat.zero_add]
            · clear hR k1 k0 kM
              refine .inl ⟨by kernel_rfl, ?_⟩
              go_simp
              exact ⟨_, rfl, Fr.refl _ _, rfl, trivial⟩
            · have h0 : u 0 = _ := hR 0 (by kernel_rfl)
              clear hR k1 k0 kM
              simp only [h0]
              refine .inl ⟨by kernel_rfl, ?_⟩
              have q := hf.cellSome (n2.out) (fun x => x)
              go_simp
              exact ⟨_, rfl, Fr.refl _ _, rfl, trivial⟩
            · have h1 : u 1 = _ := hR 1 (by kernel_rfl)
              clear hR k1 k0 kM
              simp only [h1]
              refine .inl ⟨by kernel_rfl, ?_⟩
              go_simp
              exact ⟨_, rfl, Fr.refl _ _, rfl, trivial⟩
            · have h2 : u 2 = _ := hR 2 (by kernel_rfl)
              clear hR k1 k0 kM
              simp only [h2]
              refine .inl ⟨by kernel_rfl, ?_⟩
              go_simp
              exact ⟨_, rfl, Fr.refl _ _, rfl, trivial⟩
            · have h3 : u 3 = _ := hR 3 (by kernel_rfl)
              clear hR k1 k0 kM
              simp only [h3]
              exact .inr ⟨by kernel_rfl, _, rfl, Fr.refl _ _, rfl, trivial⟩
            · have h3 : u 3 = _ := hR 3 (by kernel_rfl)
              clear hR k1 k0 kM
              simp only [h3]
              exact .inr ⟨by kernel_rfl, _, rfl, Fr.refl _ _, rfl, trivial⟩
            · have h3 : u 3 = _ := hR 3 (by kernel_rfl)
              clear hR k1 k0 kM
              simp only [h3]
              exact .inr ⟨by kernel_rfl, _, rfl, Fr.refl _ _, rfl, trivial⟩
            · have h3 : u 3 = _ := hR 3 (by kernel_rfl)
              have h6 : u 6 = _ := hR 6 (by kernel_rfl)
              clear hR k1 k0 kM
              simp only [h3, h6]
              refine .inl ⟨by kernel_rfl, ?_⟩
              go_simp
              exact ⟨_, rfl, Fr.refl _ _, rfl, trivial⟩
            · have h7 : u 7 = _ := hR 7 (by kernel_rfl)
              clear hR k1 k0 kM
              simp only [h7]
              refine .inl ⟨by kernel_rfl, ?_⟩
              go_simp
              exact ⟨_, rfl, Fr.refl _ _, rfl, trivial⟩
            · have h8 : u 8 = _ := hR 8 (by kernel_rfl)
              clear hR k1 k0 kM
              simp only [h8]
              exact .inr ⟨by kernel_rfl, _, rfl, Fr.refl _ _, rfl, trivial⟩
            · have h8 : u 8 = _ := hR 8 (by kernel_rfl)
              clear hR k1 k0 kM
              simp only [h8]
              exact .inr ⟨by kernel_rfl, _, rfl, Fr.refl _ _, rfl, trivial⟩
            · have h8 : u 8 = _ := hR 8 (by kernel_rfl)
              clear hR k1 k0 kM
              simp only [h8]
              exact .inr ⟨by kernel_rfl, _, rfl, Fr.refl _ _, rfl, trivial⟩
            · have h8 : u 8 = _ := hR 8 (by kernel_rfl)
              have h11 : u 11 = _ := hR 11 (by kernel_rfl)
              clear hR k1 k0 kM
              simp only [h8, h11]
              refine .inl ⟨by kernel_rfl, ?_⟩
              go_simp
              exact ⟨_, rfl, Fr.refl _ _, rfl, trivial⟩
            · have h12 : u 12 = _ := hR 12 (by kernel_rfl)
              clear hR k1 k0 kM
              simp only [h12]
              refine .inl ⟨by kernel_rfl, ?_⟩
              go_simp
              exact ⟨_, rfl, Fr.refl _ _, rfl, trivial⟩
            · have h13 : u 13 = _ := hR 13 (by kernel_rfl)
              clear hR k1 k0 kM
              simp only [h13]
              exact .inr ⟨by kernel_rfl, _, rfl, Fr.refl _ _, rfl, trivial⟩
            · have h13 : u 13 = _ := hR 13 (by kernel_rfl)
              clear hR k1 k0 kM
              simp only [h13]
              exact .inr ⟨by kernel_rfl, _, rfl, Fr.refl _ _, rfl, trivial⟩
            · have h13 : u 13 = _ := hR 13 (by kernel_rfl)
              clear hR k1 k0 kM
              simp only [h13]
              exact .inr ⟨by kernel_rfl, _, rfl, Fr.refl _ _, rfl, trivial⟩
            · have h13 : u 13 = _ := hR 13 (by kernel_rfl)
              clear hR k1 k0 kM
              simp only [h13]
              exact .inr ⟨by kernel_rfl, _, rfl, Fr.refl _ _, rfl, trivial⟩
            · have h13 : u 13 = _ := hR 13 (by kernel_rfl)
              clear hR k1 k0 kM
              simp only [h13]
              exact .inr ⟨by kernel_rfl, _, rfl, Fr.refl _ _, rfl, trivial⟩
            · have h13 : u 13 = _ := hR 13 (by kernel_rfl)
              clear hR k1 k0 kM
              simp only [h13]
              exact .inr ⟨by kernel_rfl, _, rfl, Fr.refl _ _, rfl, trivial⟩
            · have h13 : u 13 = _ := hR 13 (by kernel_rfl)
              have h19 : u 19 = _ := hR 19 (by kernel_rfl)
              clear hR k1 k0 kM
              simp only [h13, h19]
              refine .inl ⟨by kernel_rfl, ?_⟩
              go_simp
              exact ⟨_, rfl, Fr.refl _ _, rfl, trivial⟩
            · have h20 : u 20 = _ := hR 20 (by kernel_rfl)
              clear hR k1 k0 kM
              simp only [h20]
              refine .inl ⟨by kernel_rfl, ?_⟩
              go_simp
              exact ⟨_, rfl, Fr.refl _ _, rfl, trivial⟩
          · intro u w' hf hR kM
            have k21 : u 21 = _ := hR 21 (by omega)
            clear hR kM
            simp only [List.take_succ_cons, List.take_zero, List.map_cons, List.map_nil, puts, Act.put, List.setIfInBounds_toArray, List.set_cons_zero, List.set_cons_succ, List.drop_succ_cons, List.drop_zero, Nat.reduceAdd, Nat.zero_add, k21]
            have FA := Lib.hid (F4.out.trans hf)
            have m4 := hf.cellSome n4.out (fun x => x)
            clear hf k21 n2 n3 n4
            go_wp2
            go_ret
            refine ⟨_, rfl, ?_, FA.out⟩
            rw [HOK.out]
            have hh : (decide (0 ≤ nu) && decide (nu ≤ 1073741824)) = false := by rw [decide_eq_false (by have := U0.out; omega)]; rfl
            rw [okUs]
            simp only [hh]
            simp
        have u0 : decide (nu < 0) = false := decide_eq_false hn0
        by_cases hn1 : 1073741824 < nu
        · have u1 : decide (1073741824 < nu) = true := decide_eq_true hn1
          have U1 := Lib.hid hn1
          clear hn0 hn1
          go_upto_region 8 with fail
          refine wp_region_st 22 Nothing [Is (.pointer (some ⟨gb, 2, none⟩)), Is (.int .i64 nu), Is (.bool false), Is (.bool false), Is (.pointer (some ⟨gb, 2, none⟩)), Is (.int .i64 nu), Is (.bool true), Is (.bool true), Is (.bool true), Is (undef), Is (undef), Is (undef), Is (.bool true), Is (.bool true), Is (undef), Is (undef), Is (undef), Is (undef), Is (undef), Is (undef), Is (.bool true), Is (.bool true)] [] (fun _ => True) (fun _ _ => false) (by kernel_rfl) (by kernel_rfl) (by kernel_rfl) (by kernel_rfl) ⟨Is.stable _, Is.stable _, Is.stable _, Is.stable _, Is.stable _, Is.stable _, Is.stable _, Is.stable _, Is.stable _, Is.stable _, Is.stable _, Is.stable _, Is.stable _, Is.stable _, Is.stable _, Is.stable _, Is.stable _, Is.stable _, Is.stable _, Is.stable _, Is.stable _, Is.stable _, trivial⟩ trivial (fun _ _ _ _ h => h) trivial ?_ ?_
          · refine ⟨fun u w' d hf hR k1 k0 kM => ?_, fun u w' d hf hR k1 k0 kM => ?_, fun u w' d hf hR k1 k0 kM => ?_, fun u w' d hf hR k1 k0 kM => ?_, fun u w' d hf hR k1 k0 kM => ?_, fun u w' d hf hR k1 k0 kM => ?_, fun u w' d hf hR k1 k0 kM => ?_, fun u w' d hf hR k1 k0 kM => ?_, fun u w' d hf hR k1 k0 kM => ?_, fun u w' d hf hR k1 k0 kM => ?_, fun u w' d hf hR k1 k0 kM => ?_, fun u w' d hf hR k1 k0 kM => ?_, fun u w' d hf hR k1 k0 kM => ?_, fun u w' d hf hR k1 k0 kM => ?_, fun u w' d hf hR k1 k0 kM => ?_, fun u w' d hf hR k1 k0 kM => ?_, fun u w' d hf hR k1 k0 kM => ?_, fun u w' d hf hR k1 k0 kM => ?_, fun u w' d hf hR k1 k0 kM => ?_, fun u w' d hf hR k1 k0 kM => ?_, fun u w' d hf hR k1 k0 kM => ?_, fun u w' d hf hR k1 k0 kM => ?_, trivial⟩
            all_goals simp only [List.take_succ_cons, List.take_zero, List.map_cons, List.map_nil, puts, Act.put, List.setIfInBounds_toArray, List.set_cons_zero, List.set_cons_succ, Nat.reduceAdd, Nat.zero_add]
            · clear hR k1 k0 kM
              refine .inl ⟨by kernel_rfl, ?_⟩
              go_simp
              exact ⟨_, rfl, Fr.refl _ _, rfl, trivial⟩
            · have h0 : u 0 = _ := hR 0 (by kernel_rfl)
              clear hR k1 k0 kM
              simp only [h0]
              refine .inl ⟨by kernel_rfl, ?_⟩
              have q := hf.cellSome (n2.out) (fun x => x)
              go_simp
              exact ⟨_, rfl, Fr.refl _ _, rfl, trivial⟩
            · have h1 : u 1 = _ := hR 1 (by kernel_rfl)
              clear hR k1 k0 kM
              simp only [h1]
              refine .inl ⟨by kernel_rfl, ?_⟩
              go_simp
              exact ⟨_, rfl, Fr.refl _ _, rfl, trivial⟩
            · have h2 : u 2 = _ := hR 2 (by kernel_rfl)
              clear hR k1 k0 kM
              simp only [h2]
              refine .inl ⟨by kernel_rfl, ?_⟩
              go_simp
              exact ⟨_, rfl, Fr.refl _ _, rfl, trivial⟩
            · have h3 : u 3 = _ := hR 3 (by kernel_rfl)
              clear hR k1 k0 kM
              simp only [h3]
              refine .inl ⟨by kernel_rfl, ?_⟩
              go_simp
              exact ⟨_, rfl, Fr.refl _ _, rfl, trivial⟩
            · have h4 : u 4 = _ := hR 4 (by kernel_rfl)
              have h3 : u 3 = _ := hR 3 (by kernel_rfl)
              clear hR k1 k0 kM
              simp only [h4, h3]
              refine .inl ⟨by kernel_rfl, ?_⟩
              have q := hf.cellSome (n2.out) (fun x => x)
              go_simp
              exact ⟨_, rfl, Fr.refl _ _, rfl, trivial⟩
            · have h5 : u 5 = _ := hR 5 (by kernel_rfl)
              have h3 : u 3 = _ := hR 3 (by kernel_rfl)
              clear hR k1 k0 kM
              simp only [h5, h3]
              refine .inl ⟨by kernel_rfl, ?_⟩
              go_simp
              exact ⟨_, rfl, Fr.refl _ _, rfl, trivial⟩
            · have h3 : u 3 = _ := hR 3 (by kernel_rfl)
              have h6 : u 6 = _ := hR 6 (by kernel_rfl)
              clear hR k1 k0 kM
              simp only [h3, h6]
              refine .inl ⟨by kernel_rfl, ?_⟩
              go_simp
              exact ⟨_, rfl, Fr.refl _ _, rfl, trivial⟩
            · have h7 : u 7 = _ := hR 7 (by kernel_rfl)
              clear hR k1 k0 kM
              simp only [h7]
              refine .inl ⟨by kernel_rfl, ?_⟩
              go_simp
              exact ⟨_, rfl, Fr.refl _ _, rfl, trivial⟩
            · have h8 : u 8 = _ := hR 8 (by kernel_rfl)
              clear hR k1 k0 kM
              simp only [h8]
              exact .inr ⟨by kernel_rfl, _, rfl, Fr.refl _ _, rfl, trivial⟩
            · have h8 : u 8 = _ := hR 8 (by kernel_rfl)
              clear hR k1 k0 kM
              simp only [h8]
              exact .inr ⟨by kernel_rfl, _, rfl, Fr.refl _ _, rfl, trivial⟩
            · have h8 : u 8 = _ := hR 8 (by kernel_rfl)
              clear hR k1 k0 kM
              simp only [h8]
              exact .inr ⟨by kernel_rfl, _, rfl, Fr.refl _ _, rfl, trivial⟩
            · have h8 : u 8 = _ := hR 8 (by kernel_rfl)
              have h11 : u 11 = _ := hR 11 (by kernel_rfl)
              clear hR k1 k0 kM
              simp only [h8, h11]
              refine .inl ⟨by kernel_rfl, ?_⟩
              go_simp
              exact ⟨_, rfl, Fr.refl _ _, rfl, trivial⟩
            · have h12 : u 12 = _ := hR 12 (by kernel_rfl)
              clear hR k1 k0 kM
              simp only [h12]
              refine .inl ⟨by kernel_rfl, ?_⟩
              go_simp
              exact ⟨_, rfl, Fr.refl _ _, rfl, trivial⟩
            · have h13 : u 13 = _ := hR 13 (by kernel_rfl)
              clear hR k1 k0 kM
              simp only [h13]
              exact .inr ⟨by kernel_rfl, _, rfl, Fr.refl _ _, rfl, trivial⟩
            · have h13 : u 13 = _ := hR 13 (by kernel_rfl)
              clear hR k1 k0 kM
              simp only [h13]
              exact .inr ⟨by kernel_rfl, _, rfl, Fr.refl _ _, rfl, trivial⟩
            · have h13 : u 13 = _ := hR 13 (by kernel_rfl)
              clear hR k1 k0 kM
              simp only [h13]
              exact .inr ⟨by kernel_rfl, _, rfl, Fr.refl _ _, rfl, trivial⟩
            · have h13 : u 13 = _ := hR 13 (by kernel_rfl)
              clear hR k1 k0 kM
              simp only [h13]
              exact .inr ⟨by kernel_rfl, _, rfl, Fr.refl _ _, rfl, trivial⟩
            · have h13 : u 13 = _ := hR 13 (by kernel_rfl)
              clear hR k1 k0 kM
              simp only [h13]
              exact .inr ⟨by kernel_rfl, _, rfl, Fr.refl _ _, rfl, trivial⟩
            · have h13 : u 13 = _ := hR 13 (by kernel_rfl)
              clear hR k1 k0 kM
              simp only [h13]
              exact .inr ⟨by kernel_rfl, _, rfl, Fr.refl _ _, rfl, trivial⟩
            · have h13 : u 13 = _ := hR 13 (by kernel_rfl)
              have h19 : u 19 = _ := hR 19 (by kernel_rfl)
              clear hR k1 k0 kM
              simp only [h13, h19]
              refine .inl ⟨by kernel_rfl, ?_⟩
              go_simp
              exact ⟨_, rfl, Fr.refl _ _, rfl, trivial⟩
            · have h20 : u 20 = _ := hR 20 (by kernel_rfl)
              clear hR k1 k0 kM
              simp only [h20]
              refine .inl ⟨by kernel_rfl, ?_⟩
              go_simp
              exact ⟨_, rfl, Fr.refl _ _, rfl, trivial⟩
          · intro u w' hf hR kM
            have k21 : u 21 = _ := hR 21 (by omega)
            clear hR kM
            simp only [List.take_succ_cons, List.take_zero, List.map_cons, List.map_nil, puts, Act.put, List.setIfInBounds_toArray, List.set_cons_zero, List.set_cons_succ, List.drop_succ_cons, List.drop_zero, Nat.reduceAdd, Nat.zero_add, k21]
            have FA := Lib.hid (F4.out.trans hf)
            have m4 := hf.cellSome n4.out (fun x => x)
            clear hf k21 n2 n3 n4
            go_wp2
            go_ret
            refine ⟨_, rfl, ?_, FA.out⟩
            rw [HOK.out]
            have hh : (decide (0 ≤ nu) && decide (nu ≤ 1073741824)) = false := by rw [decide_eq_false (show ¬ nu ≤ 1073741824 by have := U1.out; omega)]; simp
            rw [okUs]
            simp only [hh]
            simp
        have u1 : decide (1073741824 < nu) = false := decide_eq_false hn1
        have HNU : Hid ((decide (0 ≤ nu) && decide (nu ≤ 1073741824)) = true) := by simp only [Hid]; rw [decide_eq_true (show 0 ≤ nu by omega), decide_eq_true (show nu ≤ 1073741824 by omega)]; rfl
        clear hn0 hn1
        have v0 : decide (ix < 0) = false := decide_eq_false (by have := He_ix.out; omega)
        have v1 : decide (mo < ix) = false := decide_eq_false (by have := He_ix.out; omega)
        go_upto_region 8 with fail
        refine wp_region_st 22 Nothing [Is (.pointer (some ⟨gb, 2, none⟩)), Is (.int .i64 nu), Is (.bool false), Is (.bool false), Is (.pointer (some ⟨gb, 2, none⟩)), Is (.int .i64 nu), Is (.bool false), Is (.bool false), Is (.bool false), Is (.pointer (some ⟨gb, 3, none⟩)), Is (.int .i64 ix), Is (.bool false), Is (.bool false), Is (.bool false), Is (.pointer (some ⟨gb, 3, none⟩)), Is (.int .i64 ix), Is (.int .i64 (k : Int)), Is (.int .i64 mq), Is (.int .i64 mo), Is (.bool false), Is (.bool false), Is (.bool false)] [] (fun _ => True) (fun _ _ => false) (by kernel_rfl) (by kernel_rfl) (by kernel_rfl) (by kernel_rfl) ⟨Is.stable _, Is.stable _, Is.stable _, Is.stable _, Is.stable _, Is.stable _, Is.stable _, Is.stable _, Is.stable _, Is.stable _, Is.stable _, Is.stable _, Is.stable _, Is.stable _, Is.stable _, Is.stable _, Is.stable _, Is.stable _, Is.stable _, Is.stable _, Is.stable _, Is.stable _, trivial⟩ trivial (fun _ _ _ _ h => h) trivial ?_ ?_
        · refine ⟨fun u w' d hf hR k1 k0 kM => ?_, fun u w' d hf hR k1 k0 kM => ?_, fun u w' d hf hR k1 k0 kM => ?_, fun u w' d hf hR k1 k0 kM => ?_, fun u w' d hf hR k1 k0 kM => ?_, fun u w' d hf hR k1 k0 kM => ?_, fun u w' d hf hR k1 k0 kM => ?_, fun u w' d hf hR k1 k0 kM => ?_, fun u w' d hf hR k1 k0 kM => ?_, fun u w' d hf hR k1 k0 kM => ?_, fun u w' d hf hR k1 k0 kM => ?_, fun u w' d hf hR k1 k0 kM => ?_, fun u w' d hf hR k1 k0 kM => ?_, fun u w' d hf hR k1 k0 kM => ?_, fun u w' d hf hR k1 k0 kM => ?_, fun u w' d hf hR k1 k0 kM => ?_, fun u w' d hf hR k1 k0 kM => ?_, fun u w' d hf hR k1 k0 kM => ?_, fun u w' d hf hR k1 k0 kM => ?_, fun u w' d hf hR k1 k0 kM => ?_, fun u w' d hf hR k1 k0 kM => ?_, fun u w' d hf hR k1 k0 kM => ?_, trivial⟩
          all_goals simp only [List.take_succ_cons, List.take_zero, List.map_cons, List.map_nil, puts, Act.put, List.setIfInBounds_toArray, List.set_cons_zero, List.set_cons_succ, Nat.reduceAdd, Nat.zero_add]
          · clear hR k1 k0 kM
            refine .inl ⟨by kernel_rfl, ?_⟩
            go_simp
            exact ⟨_, rfl, Fr.refl _ _, rfl, trivial⟩
          · have h0 : u 0 = _ := hR 0 (by kernel_rfl)
            clear hR k1 k0 kM
            simp only [h0]
            refine .inl ⟨by kernel_rfl, ?_⟩
            have q := hf.cellSome (n2.out) (fun x => x)
            go_simp
            exact ⟨_, rfl, Fr.refl _ _, rfl, trivial⟩
          · have h1 : u 1 = _ := hR 1 (by kernel_rfl)
            clear hR k1 k0 kM
            simp only [h1]
            refine .inl ⟨by kernel_rfl, ?_⟩
            go_simp
            exact ⟨_, rfl, Fr.refl _ _, rfl, trivial⟩
          · have h2 : u 2 = _ := hR 2 (by kernel_rfl)
            clear hR k1 k0 kM
            simp only [h2]
            refine .inl ⟨by kernel_rfl, ?_⟩
            go_simp
            exact ⟨_, rfl, Fr.refl _ _, rfl, trivial⟩
          · have h3 : u 3 = _ := hR 3 (by kernel_rfl)
            clear hR k1 k0 kM
            simp only [h3]
            refine .inl ⟨by kernel_rfl, ?_⟩
            go_simp
            exact ⟨_, rfl, Fr.refl _ _, rfl, trivial⟩
          · have h4 : u 4 = _ := hR 4 (by kernel_rfl)
            have h3 : u 3 = _ := hR 3 (by kernel_rfl)
            clear hR k1 k0 kM
            simp only [h4, h3]
            refine .inl ⟨by kernel_rfl, ?_⟩
            have q := hf.cellSome (n2.out) (fun x => x)
            go_simp
            exact ⟨_, rfl, Fr.refl _ _, rfl, trivial⟩
          · have h5 : u 5 = _ := hR 5 (by kernel_rfl)
            have h3 : u 3 = _ := hR 3 (by kernel_rfl)
            clear hR k1 k0 kM
            simp only [h5, h3]
            refine .inl ⟨by kernel_rfl, ?_⟩
            go_simp
            exact ⟨_, rfl, Fr.refl _ _, rfl, trivial⟩
          · have h3 : u 3 = _ := hR 3 (by kernel_rfl)
            have h6 : u 6 = _ := hR 6 (by kernel_rfl)
            clear hR k1 k0 kM
            simp only [h3, h6]
            refine .inl ⟨by kernel_rfl, ?_⟩
            go_simp
            exact ⟨_, rfl, Fr.refl _ _, rfl, trivial⟩
          · have h7 : u 7 = _ := hR 7 (by kernel_rfl)
            clear hR k1 k0 kM
            simp only [h7]
            refine .inl ⟨by kernel_rfl, ?_⟩
            go_simp
            exact ⟨_, rfl, Fr.refl _ _, rfl, trivial⟩
          · have h8 : u 8 = _ := hR 8 (by kernel_rfl)
            clear hR k1 k0 kM
            simp only [h8]
            refine .inl ⟨by kernel_rfl, ?_⟩
            go_simp
            exact ⟨_, rfl, Fr.refl _ _, rfl, trivial⟩
          · have h9 : u 9 = _ := hR 9 (by kernel_rfl)
            have h8 : u 8 = _ := hR 8 (by kernel_rfl)
            clear hR k1 k0 kM
            simp only [h9, h8]
            refine .inl ⟨by kernel_rfl, ?_⟩
            have q := hf.cellSome (n3.out) (fun x => x)
            go_simp
            exact ⟨_, rfl, Fr.refl _ _, rfl, trivial⟩
          · have h10 : u 10 = _ := hR 10 (by kernel_rfl)
            have h8 : u 8 = _ := hR 8 (by kernel_rfl)
            clear hR k1 k0 kM
            simp only [h10, h8]
            refine .inl ⟨by kernel_rfl, ?_⟩
            go_simp
            exact ⟨_, rfl, Fr.refl _ _, rfl, trivial⟩
          · have h8 : u 8 = _ := hR 8 (by kernel_rfl)
            have h11 : u 11 = _ := hR 11 (by kernel_rfl)
            clear hR k1 k0 kM
            simp only [h8, h11]
            refine .inl ⟨by kernel_rfl, ?_⟩
            go_simp
            exact ⟨_, rfl, Fr.refl _ _, rfl, trivial⟩
          · have h12 : u 12 = _ := hR 12 (by kernel_rfl)
            clear hR k1 k0 kM
            simp only [h12]
            refine .inl ⟨by kernel_rfl, ?_⟩
            go_simp
            exact ⟨_, rfl, Fr.refl _ _, rfl, trivial⟩
          · have h13 : u 13 = _ := hR 13 (by kernel_rfl)
            clear hR k1 k0 kM
            simp only [h13]
            refine .inl ⟨by kernel_rfl, ?_⟩
            go_simp
            exact ⟨_, rfl, Fr.refl _ _, rfl, trivial⟩
          · have h14 : u 14 = _ := hR 14 (by kernel_rfl)
            have h13 : u 13 = _ := hR 13 (by kernel_rfl)
            clear hR k1 k0 kM
            simp only [h14, h13]
            refine .inl ⟨by kernel_rfl, ?_⟩
            have q := hf.cellSome (n3.out) (fun x => x)
            go_simp
            exact ⟨_, rfl, Fr.refl _ _, rfl, trivial⟩
          · have h13 : u 13 = _ := hR 13 (by kernel_rfl)
            clear hR k1 k0 kM
            simp only [h13]
            refine .inl ⟨by kernel_rfl, ?_⟩
            go_simp
            exact ⟨_, rfl, Fr.refl _ _, rfl, trivial⟩
          · have h16 : u 16 = _ := hR 16 (by kernel_rfl)
            have h13 : u 13 = _ := hR 13 (by kernel_rfl)
            clear hR k1 k0 kM
            simp only [h16, h13]
            refine .inl ⟨by kernel_rfl, ?_⟩
            go_simp
            refine (CM.out _).mono ?_
            rintro e w9 ⟨rfl, rfl⟩
            exact ⟨_, rfl, Fr.refl _ _, rfl, trivial⟩
          · have h17 : u 17 = _ := hR 17 (by kernel_rfl)
            have h13 : u 13 = _ := hR 13 (by kernel_rfl)
            clear hR k1 k0 kM
            simp only [h17, h13]
            refine .inl ⟨by kernel_rfl, ?_⟩
            have q := HMX.out
            go_simp
            exact ⟨_, rfl, Fr.refl _ _, rfl, trivial⟩
          · have h15 : u 15 = _ := hR 15 (by kernel_rfl)
            have h18 : u 18 = _ := hR 18 (by kernel_rfl)
            have h13 : u 13 = _ := hR 13 (by kernel_rfl)
            clear hR k1 k0 kM
            simp only [h15, h18, h13]
            refine .inl ⟨by kernel_rfl, ?_⟩
            go_simp
            exact ⟨_, rfl, Fr.refl _ _, rfl, trivial⟩
          · have h13 : u 13 = _ := hR 13 (by kernel_rfl)
            have h19 : u 19 = _ := hR 19 (by kernel_rfl)
            clear hR k1 k0 kM
            simp only [h13, h19]
            refine .inl ⟨by kernel_rfl, ?_⟩
            go_simp
            exact ⟨_, rfl, Fr.refl _ _, rfl, trivial⟩
          · have h20 : u 20 = _ := hR 20 (by kernel_rfl)
            clear hR k1 k0 kM
            simp only [h20]
            refine .inl ⟨by kernel_rfl, ?_⟩
            go_simp
            exact ⟨_, rfl, Fr.refl _ _, rfl, trivial⟩
        · intro u w' hf hR kM
          have k21 : u 21 = _ := hR 21 (by omega)
          clear hR kM
          simp only [List.take_succ_cons, List.take_zero, List.map_cons, List.map_nil, puts, Act.put, List.setIfInBounds_toArray, List.set_cons_zero, List.set_cons_succ, List.drop_succ_cons, List.drop_zero, Nat.reduceAdd, Nat.zero_add, k21]
          have FA := Lib.hid (F4.out.trans hf)
          have m4 := hf.cellSome n4.out (fun x => x)
          clear hf k21 n2 n3 n4
          go_wp2_with fail
          refine (CT.out _).mono ?_
          rintro e w9 ⟨rfl, rfl⟩
          go_wp2
          go_ret
          refine ⟨_, rfl, ?_, FA.out⟩
          rw [HOK.out]
          rw [okUs]
          simp only [He_ix.out, He_tx.out, Hv1.out, HNU.out]
          simp
  · have He_ix := Lib.hid e_ix
    have t_e_ix := bne0 e_ix
    clear e_ix
    go_wp2
    go_ret
    refine ⟨_, rfl, ?_, F1.out⟩
    rw [HOK.out]
    simp [okUs, He_ix.out]
set_option maxRecDepth 100000 in
set_option maxHeartbeats 8000000 in
theorem rCheck_1110 (k : Nat) (ow : ByteArray) (nu ix : Int) (tx wd : ByteArray) (mo : Int) (w : World) (hk : 1 ≤ k ∧ k ≤ 20) (hu : usaL[k]? = some ⟨wd, true, true, true, false, mo⟩) (ho : ow.size ≤ 1099511627776) (ht : tx.size ≤ 1099511627776) (hmo : 0 ≤ mo) :
    Calls Tryd.prog 80 #[.agg #[.int .i64 (k : Int), .string ow, .int .i64 nu, .int .i64 ix, .string tx]] w (Checked w ⟨(k : Int), ow, nu, ix, tx⟩) := by
  have HOK : Hid (okNm ⟨(k : Int), ow, nu, ix, tx⟩ = okUs ⟨wd, true, true, true, false, mo⟩ ⟨(k : Int), ow, nu, ix, tx⟩) := by
    simp only [Hid, okNm, Int.toNat_natCast, hu]
    rw [decide_eq_true (show (1 : Int) ≤ (k : Int) by omega), decide_eq_true (show (k : Int) ≤ 20 by omega)]
    rfl
  have HOW := Lib.hid ho
  have HTX := Lib.hid ht
  have CO : Hid (∀ w, Calls Tryd.prog 97 #[.int .i64 (k : Int)] w (SameW w (.bool true))) := fun w => rOwned_any k _ w hk hu
  have CN : Hid (∀ w, Calls Tryd.prog 99 #[.int .i64 (k : Int)] w (SameW w (.bool true))) := fun w => rNumbered_any k _ w hk hu
  have CT : Hid (∀ w, Calls Tryd.prog 101 #[.int .i64 (k : Int)] w (SameW w (.bool false))) := fun w => rTexted_any k _ w hk hu
  obtain ⟨mq, hmq⟩ : ∃ mq : Int, mq = (if true = true then mo else -1) := ⟨_, rfl⟩
  have CM : Hid (∀ w, Calls Tryd.prog 100 #[.int .i64 (k : Int)] w (SameW w (.int .i64 mq))) := fun w => by rw [hmq]; exact rMost_any k _ w hk hu
  have hmq2 : mq = mo := by rw [hmq]; simp
  have tq : decide (mq < 0) = false := decide_eq_false (by omega)
  have HMX : Hid (max mq 0 = mo) := by simp only [Hid]; omega
  have k1 : decide ((k : Int) < 1) = false := decide_eq_false (by omega)
  have k1' : ¬ (k : Int) < 1 := by omega
  have k2 : decide ((20 : Int) < (k : Int)) = false := decide_eq_false (by omega)
  have k2' : ¬ (20 : Int) < (k : Int) := by omega
  clear hk hu ho ht hmq hmq2
  go_enter Tryd.func80, Tryd.ntmps80
  go_wp2_with (refine wpList_boxBlk rfl 40 (.tmp 0) rfl #[.int .i64 (k : Int), .string ow, .int .i64 nu, .int .i64 ix, .string tx] rfl ?_)
  intro w1 n1
  have F1 := Lib.hid n1.fr
  have NB := Lib.hid n1.blk
  have c0 : w1.cell? ⟨w.heap.size, 0, none⟩ = some (.int .i64 (k : Int)) := n1.blk.cell 0
  have c1 : w1.cell? ⟨w.heap.size, 1, none⟩ = some (.string ow) := n1.blk.cell 1
  have c2 : w1.cell? ⟨w.heap.size, 2, none⟩ = some (.int .i64 nu) := n1.blk.cell 2
  have c3 : w1.cell? ⟨w.heap.size, 3, none⟩ = some (.int .i64 ix) := n1.blk.cell 3
  have c4 : w1.cell? ⟨w.heap.size, 4, none⟩ = some (.string tx) := n1.blk.cell 4
  clear n1
  generalize w.heap.size = gb at *
  go_wp2_with fail
  refine (CO.out _).mono ?_
  rintro e w9 ⟨rfl, rfl⟩
  go_wp2_with fail
  refine (CN.out _).mono ?_
  rintro e w9 ⟨rfl, rfl⟩
  go_wp2_with fail
  refine (CM.out _).mono ?_
  rintro e w9 ⟨rfl, rfl⟩
  go_wp2_with fail
  refine (CT.out _).mono ?_
  rintro e w9 ⟨rfl, rfl⟩
  cases e_tx : tx.toList.isEmpty
  · have He_tx := Lib.hid e_tx
    go_wp2
    go_ret
    refine ⟨_, rfl, ?_, F1.out⟩
    rw [HOK.out]
    simp [okUs, He_tx.out]
  · have He_tx := Lib.hid e_tx
    go_wp2_with fail
    refine (CO.out _).mono ?_
    rintro e w9 ⟨rfl, rfl⟩
    have K1 := Lib.hid (rValid_any ow w1 HOW.out)
    obtain ⟨v1, hv1⟩ : ∃ v1, validO ow = v1 := ⟨_, rfl⟩
    have Hv1 := Lib.hid hv1
    rw [hv1] at K1
    clear hv1
    go_wp2_with fail
    refine K1.out.mono ?_
    rintro e w4 ⟨rfl, f4⟩
    have F4 := Lib.hid (F1.out.trans f4)
    have n2 := Lib.hid (f4.cellSome c2 (fun x => x))
    have n3 := Lib.hid (f4.cellSome c3 (fun x => x))
    have n4 := Lib.hid (f4.cellSome c4 (fun x => x))
    clear f4 c0 c1 c2 c3 c4
    cases v1
    · go_wp2
      go_ret
      refine ⟨_, rfl, ?_, F4.out⟩
      rw [HOK.out]
      have hh := Hv1.out
      simp [okUs, hh]
    · by_cases hn0 : nu < 0
      · have u0 : decide (nu < 0) = true := decide_eq_true hn0
        have U0 := Lib.hid hn0
        clear hn0
        go_upto_region 8 with fail
        refine wp_region_st 22 Nothing [Is (.pointer (some ⟨gb, 2, none⟩)), Is (.int .i64 nu), Is (.bool true), Is (.bool true), Is (undef), Is (undef), Is (undef), Is (.bool true), Is (.bool true), Is (undef), Is (undef), Is (undef), Is (.bool true), Is (.bool true), Is (undef), Is (undef), Is (undef), Is (undef), Is (undef), Is (undef), Is (.bool true), Is (.bool true)] [] (fun _ => True) (fun _ _ => false) (by kernel_rfl) (by kernel_rfl) (by kernel_rfl) (by kernel_rfl) ⟨Is.stable _, Is.stable _, Is.stable _, Is.stable _, Is.stable _, Is.stable _, Is.stable _, Is.stable _, Is.stable _, Is.stable _, Is.stable _, Is.stable _, Is.stable _, Is.stable _, Is.stable _, Is.stable _, Is.stable _, Is.stable _, Is.stable _, Is.stable _, Is.stable _, Is.stable _, trivial⟩ trivial (fun _ _ _ _ h => h) trivial ?_ ?_
        · refine ⟨fun u w' d hf hR k1 k0 kM => ?_, fun u w' d hf hR k1 k0 kM => ?_, fun u w' d hf hR k1 k0 kM => ?_, fun u w' d hf hR k1 k0 kM => ?_, fun u w' d hf hR k1 k0 kM => ?_, fun u w' d hf hR k1 k0 kM => ?_, fun u w' d hf hR k1 k0 kM => ?_, fun u w' d hf hR k1 k0 kM => ?_, fun u w' d hf hR k1 k0 kM => ?_, fun u w' d hf hR k1 k0 kM => ?_, fun u w' d hf hR k1 k0 kM => ?_, fun u w' d hf hR k1 k0 kM => ?_, fun u w' d hf hR k1 k0 kM => ?_, fun u w' d hf hR k1 k0 kM => ?_, fun u w' d hf hR k1 k0 kM => ?_, fun u w' d hf hR k1 k0 kM => ?_, fun u w' d hf hR k1 k0 kM => ?_, fun u w' d hf hR k1 k0 kM => ?_, fun u w' d hf hR k1 k0 kM => ?_, fun u w' d hf hR k1 k0 kM => ?_, fun u w' d hf hR k1 k0 kM => ?_, fun u w' d hf hR k1 k0 kM => ?_, trivial⟩
          all_goals simp only [List.take_succ_cons, List.take_zero, List.map_cons, List.map_nil, puts, Act.put, List.setIfInBounds_toArray, List.set_cons_zero, List.set_cons_succ, Nat.reduceAdd, Nat.zero_add]
          · clear hR k1 k0 kM
            refine .inl ⟨by kernel_rfl, ?_⟩
            go_simp
            exact ⟨_, rfl, Fr.refl _ _, rfl, trivial⟩
          · have h0 : u 0 = _ := hR 0 (by kernel_rfl)
            clear hR k1 k0 kM
            simp only [h0]
            refine .inl ⟨by kernel_rfl, ?_⟩
            have q := hf.cellSome (n2.out) (fun x => x)
            go_simp
            exact ⟨_, rfl, Fr.refl _ _, rfl, trivial⟩
          · have h1 : u 1 = _ := hR 1 (by kernel_rfl)
            clear hR k1 k0 kM
            simp only [h1]
            refine .inl ⟨by kernel_rfl, ?_⟩
            go_simp
            exact ⟨_, rfl, Fr.refl _ _, rfl, trivial⟩
          · have h2 : u 2 = _ := hR 2 (by kernel_rfl)
            clear hR k1 k0 kM
            simp only [h2]
            refine .inl ⟨by kernel_rfl, ?_⟩
            go_simp
            exact ⟨_, rfl, Fr.refl _ _, rfl, trivial⟩
          · have h3 : u 3 = _ := hR 3 (by kernel_rfl)
            clear hR k1 k0 kM
            simp only [h3]
            exact .inr ⟨by kernel_rfl, _, rfl, Fr.refl _ _, rfl, trivial⟩
          · have h3 : u 3 = _ := hR 3 (by kernel_rfl)
            clear hR k1 k0 kM
            simp only [h3]
            exact .inr ⟨by kernel_rfl, _, rfl, Fr.refl _ _, rfl, trivial⟩
          · have h3 : u 3 = _ := hR 3 (by kernel_rfl)
            clear hR k1 k0 kM
            simp only [h3]
            exact .inr ⟨by kernel_rfl, _, rfl, Fr.refl _ _, rfl, trivial⟩
          · have h3 : u 3 = _ := hR 3 (by kernel_rfl)
            have h6 : u 6 = _ := hR 6 (by kernel_rfl)
            clear hR k1 k0 kM
            simp only [h3, h6]
            refine .inl ⟨by kernel_rfl, ?_⟩
            go_simp
            exact ⟨_, rfl, Fr.refl _ _, rfl, trivial⟩
          · have h7 : u 7 = _ := hR 7 (by kernel_rfl)
            clear hR k1 k0 kM
            simp only [h7]
            refine .inl ⟨by kernel_rfl, ?_⟩
            go_simp
            exact ⟨_, rfl, Fr.refl _ _, rfl, trivial⟩
          · have h8 : u 8 = _ := hR 8 (by kernel_rfl)
            clear hR k1 k0 kM
            simp only [h8]
            exact .inr ⟨by kernel_rfl, _, rfl, Fr.refl _ _, rfl, trivial⟩
          · have h8 : u 8 = _ := hR 8 (by kernel_rfl)
            clear hR k1 k0 kM
            simp only [h8]
            exact .inr ⟨by kernel_rfl, _, rfl, Fr.refl _ _, rfl, trivial⟩
          · have h8 : u 8 = _ := hR 8 (by kernel_rfl)
            clear hR k1 k0 kM
            simp only [h8]
            exact .inr ⟨by kernel_rfl, _, rfl, Fr.refl _ _, rfl, trivial⟩
          · have h8 : u 8 = _ := hR 8 (by kernel_rfl)
            have h11 : u 11 = _ := hR 11 (by kernel_rfl)
            clear hR k1 k0 kM
            simp only [h8, h11]
            refine .inl ⟨by kernel_rfl, ?_⟩
            go_simp
            exact ⟨_, rfl, Fr.refl _ _, rfl, trivial⟩
          · have h12 : u 12 = _ := hR 12 (by kernel_rfl)
            clear hR k1 k0 kM
            simp only [h12]
            refine .inl ⟨by kernel_rfl, ?_⟩
            go_simp
            exact ⟨_, rfl, Fr.refl _ _, rfl, trivial⟩
          · have h13 : u 13 = _ := hR 13 (by kernel_rfl)
            clear hR k1 k0 kM
            simp only [h13]
            exact .inr ⟨by kernel_rfl, _, rfl, Fr.refl _ _, rfl, trivial⟩
          · have h13 : u 13 = _ := hR 13 (by kernel_rfl)
            clear hR k1 k0 kM
            simp only [h13]
            exact .inr ⟨by kernel_rfl, _, rfl, Fr.refl _ _, rfl, trivial⟩
          · have h13 : u 13 = _ := hR 13 (by kernel_rfl)
            clear hR k1 k0 kM
            simp only [h13]
            exact .inr ⟨by kernel_rfl, _, rfl, Fr.refl _ _, rfl, trivial⟩
          · have h13 : u 13 = _ := hR 13 (by kernel_rfl)
            clear hR k1 k0 kM
            simp only [h13]
            exact .inr ⟨by kernel_rfl, _, rfl, Fr.refl _ _, rfl, trivial⟩
          · have h13 : u 13 = _ := hR 13 (by kernel_rfl)
            clear hR k1 k0 kM
            simp only [h13]
            exact .inr ⟨by kernel_rfl, _, rfl, Fr.refl _ _, rfl, trivial⟩
          · have h13 : u 13 = _ := hR 13 (by kernel_rfl)
            clear hR k1 k0 kM
            simp only [h13]
            exact .inr ⟨by kernel_rfl, _, rfl, Fr.refl _ _, rfl, trivial⟩
          · have h13 : u 13 = _ := hR 13 (by kernel_rfl)
            have h19 : u 19 = _ := hR 19 (by kernel_rfl)
            clear hR k1 k0 kM
            simp only [h13, h19]
            refine .inl ⟨by kernel_rfl, ?_⟩
            go_simp
            exact ⟨_, rfl, Fr.refl _ _, rfl, trivial⟩
          · have h20 : u 20 = _ := hR 20 (by kernel_rfl)
            clear hR k1 k0 kM
            simp only [h20]
            refine .inl ⟨by kernel_rfl, ?_⟩
            go_simp
            exact ⟨_, rfl, Fr.refl _ _, rfl, trivial⟩
        · intro u w' hf hR kM
          have k21 : u 21 = _ := hR 21 (by omega)
          clear hR kM
          simp only [List.take_succ_cons, List.take_zero, List.map_cons, List.map_nil, puts, Act.put, List.setIfInBounds_toArray, List.set_cons_zero, List.set_cons_succ, List.drop_succ_cons, List.drop_zero, Nat.reduceAdd, Nat.zero_add, k21]
          have FA := Lib.hid (F4.out.trans hf)
          have m4 := hf.cellSome n4.out (fun x => x)
          clear hf k21 n2 n3 n4
          go_wp2
          go_ret
          refine ⟨_, rfl, ?_, FA.out⟩
          rw [HOK.out]
          have hh : (decide (0 ≤ nu) && decide (nu ≤ 1073741824)) = false := by rw [decide_eq_false (by have := U0.out; omega)]; rfl
          rw [okUs]
          simp only [hh]
          simp
      have u0 : decide (nu < 0) = false := decide_eq_false hn0
      by_cases hn1 : 1073741824 < nu
      · have u1 : decide (1073741824 < nu) = true := decide_eq_true hn1
        have U1 := Lib.hid hn1
        clear hn0 hn1
        go_upto_region 8 with fail
        refine wp_region_st 22 Nothing [Is (.pointer (some ⟨gb, 2, none⟩)), Is (.int .i64 nu), Is (.bool false), Is (.bool false), Is (.pointer (some ⟨gb, 2, none⟩)), Is (.int .i64 nu), Is (.bool true), Is (.bool true), Is (.bool true), Is (undef), Is (undef), Is (undef), Is (.bool true), Is (.bool true), Is (undef), Is (undef), Is (undef), Is (undef), Is (undef), Is (undef), Is (.bool true), Is (.bool true)] [] (fun _ => True) (fun _ _ => false) (by kernel_rfl) (by kernel_rfl) (by kernel_rfl) (by kernel_rfl) ⟨Is.stable _, Is.stable _, Is.stable _, Is.stable _, Is.stable _, Is.stable _, Is.stable _, Is.stable _, Is.stable _, Is.stable _, Is.stable _, Is.stable _, Is.stable _, Is.stable _, Is.stable _, Is.stable _, Is.stable _, Is.stable _, Is.stable _, Is.stable _, Is.stable _, Is.stable _, trivial⟩ trivial (fun _ _ _ _ h => h) trivial ?_ ?_
        · refine ⟨fun u w' d hf hR k1 k0 kM => ?_, fun u w' d hf hR k1 k0 kM => ?_, fun u w' d hf hR k1 k0 kM => ?_, fun u w' d hf hR k1 k0 kM => ?_, fun u w' d hf hR k1 k0 kM => ?_, fun u w' d hf hR k1 k0 kM => ?_, fun u w' d hf hR k1 k0 kM => ?_, fun u w' d hf hR k1 k0 kM => ?_, fun u w' d hf hR k1 k0 kM => ?_, fun u w' d hf hR k1 k0 kM => ?_, fun u w' d hf hR k1 k0 kM => ?_, fun u w' d hf hR k1 k0 kM => ?_, fun u w' d hf hR k1 k0 kM => ?_, fun u w' d hf hR k1 k0 kM => ?_, fun u w' d hf hR k1 k0 kM => ?_, fun u w' d hf hR k1 k0 kM => ?_, fun u w' d hf hR k1 k0 kM => ?_, fun u w' d hf hR k1 k0 kM => ?_, fun u w' d hf hR k1 k0 kM => ?_, fun u w' d hf hR k1 k0 kM => ?_, fun u w' d hf hR k1 k0 kM => ?_, fun u w' d hf hR k1 k0 kM => ?_, trivial⟩
          all_goals simp only [List.take_succ_cons, List.take_zero, List.map_cons, List.map_nil, puts, Act.put, List.setIfInBounds_toArray, List.set_cons_zero, List.set_cons_succ, Nat.reduceAdd, Nat.zero_add]
          · clear hR k1 k0 kM
            refine .inl ⟨by kernel_rfl, ?_⟩
            go_simp
            exact ⟨_, rfl, Fr.refl _ _, rfl, trivial⟩
          · have h0 : u 0 = _ := hR 0 (by kernel_rfl)
            clear hR k1 k0 kM
            simp only [h0]
            refine .inl ⟨by kernel_rfl, ?_⟩
            have q := hf.cellSome (n2.out) (fun x => x)
            go_simp
            exact ⟨_, rfl, Fr.refl _ _, rfl, trivial⟩
          · have h1 : u 1 = _ := hR 1 (by kernel_rfl)
            clear hR k1 k0 kM
            simp only [h1]
            refine .inl ⟨by kernel_rfl, ?_⟩
            go_simp
            exact ⟨_, rfl, Fr.refl _ _, rfl, trivial⟩
          · have h2 : u 2 = _ := hR 2 (by kernel_rfl)
            clear hR k1 k0 kM
            simp only [h2]
            refine .inl ⟨by kernel_rfl, ?_⟩
            go_simp
            exact ⟨_, rfl, Fr.refl _ _, rfl, trivial⟩
          · have h3 : u 3 = _ := hR 3 (by kernel_rfl)
            clear hR k1 k0 kM
            simp only [h3]
            refine .inl ⟨by kernel_rfl, ?_⟩
            go_simp
            exact ⟨_, rfl, Fr.refl _ _, rfl, trivial⟩
          · have h4 : u 4 = _ := hR 4 (by kernel_rfl)
            have h3 : u 3 = _ := hR 3 (by kernel_rfl)
            clear hR k1 k0 kM
            simp only [h4, h3]
            refine .inl ⟨by kernel_rfl, ?_⟩
            have q := hf.cellSome (n2.out) (fun x => x)
            go_simp
            exact ⟨_, rfl, Fr.refl _ _, rfl, trivial⟩
          · have h5 : u 5 = _ := hR 5 (by kernel_rfl)
            have h3 : u 3 = _ := hR 3 (by kernel_rfl)
            clear hR k1 k0 kM
            simp only [h5, h3]
            refine .inl ⟨by kernel_rfl, ?_⟩
            go_simp
            exact ⟨_, rfl, Fr.refl _ _, rfl, trivial⟩
          · have h3 : u 3 = _ := hR 3 (by kernel_rfl)
            have h6 : u 6 = _ := hR 6 (by kernel_rfl)
            clear hR k1 k0 kM
            simp only [h3, h6]
            refine .inl ⟨by kernel_rfl, ?_⟩
            go_simp
            exact ⟨_, rfl, Fr.refl _ _, rfl, trivial⟩
          · have h7 : u 7 = _ := hR 7 (by kernel_rfl)
            clear hR k1 k0 kM
            simp only [h7]
            refine .inl ⟨by kernel_rfl, ?_⟩
            go_simp
            exact ⟨_, rfl, Fr.refl _ _, rfl, trivial⟩
          · have h8 : u 8 = _ := hR 8 (by kernel_rfl)
            clear hR k1 k0 kM
            simp only [h8]
            exact .inr ⟨by kernel_rfl, _, rfl, Fr.refl _ _, rfl, trivial⟩
          · have h8 : u 8 = _ := hR 8 (by kernel_rfl)
            clear hR k1 k0 kM
            simp only [h8]
            exact .inr ⟨by kernel_rfl, _, rfl, Fr.refl _ _, rfl, trivial⟩
          · have h8 : u 8 = _ := hR 8 (by kernel_rfl)
            clear hR k1 k0 kM
            simp only [h8]
            exact .inr ⟨by kernel_rfl, _, rfl, Fr.refl _ _, rfl, trivial⟩
          · have h8 : u 8 = _ := hR 8 (by kernel_rfl)
            have h11 : u 11 = _ := hR 11 (by kernel_rfl)
            clear hR k1 k0 kM
            simp only [h8, h11]
            refine .inl ⟨by kernel_rfl, ?_⟩
            go_simp
            exact ⟨_, rfl, Fr.refl _ _, rfl, trivial⟩
          · have h12 : u 12 = _ := hR 12 (by kernel_rfl)
            clear hR k1 k0 kM
            simp only [h12]
            refine .inl ⟨by kernel_rfl, ?_⟩
            go_simp
            exact ⟨_, rfl, Fr.refl _ _, rfl, trivial⟩
          · have h13 : u 13 = _ := hR 13 (by kernel_rfl)
            clear hR k1 k0 kM
            simp only [h13]
            exact .inr ⟨by kernel_rfl, _, rfl, Fr.refl _ _, rfl, trivial⟩
          · have h13 : u 13 = _ := hR 13 (by kernel_rfl)
            clear hR k1 k0 kM
            simp only [h13]
            exact .inr ⟨by kernel_rfl, _, rfl, Fr.refl _ _, rfl, trivial⟩
          · have h13 : u 13 = _ := hR 13 (by kernel_rfl)
            clear hR k1 k0 kM
            simp only [h13]
            exact .inr ⟨by kernel_rfl, _, rfl, Fr.refl _ _, rfl, trivial⟩
          · have h13 : u 13 = _ := hR 13 (by kernel_rfl)
            clear hR k1 k0 kM
            simp only [h13]
            exact .inr ⟨by kernel_rfl, _, rfl, Fr.refl _ _, rfl, trivial⟩
          · have h13 : u 13 = _ := hR 13 (by kernel_rfl)
            clear hR k1 k0 kM
            simp only [h13]
            exact .inr ⟨by kernel_rfl, _, rfl, Fr.refl _ _, rfl, trivial⟩
          · have h13 : u 13 = _ := hR 13 (by kernel_rfl)
            clear hR k1 k0 kM
            simp only [h13]
            exact .inr ⟨by kernel_rfl, _, rfl, Fr.refl _ _, rfl, trivial⟩
          · have h13 : u 13 = _ := hR 13 (by kernel_rfl)
            have h19 : u 19 = _ := hR 19 (by kernel_rfl)
            clear hR k1 k0 kM
            simp only [h13, h19]
            refine .inl ⟨by kernel_rfl, ?_⟩
            go_simp
            exact ⟨_, rfl, Fr.refl _ _, rfl, trivial⟩
          · have h20 : u 20 = _ := hR 20 (by kernel_rfl)
            clear hR k1 k0 kM
            simp only [h20]
            refine .inl ⟨by kernel_rfl, ?_⟩
            go_simp
            exact ⟨_, rfl, Fr.refl _ _, rfl, trivial⟩
        · intro u w' hf hR kM
          have k21 : u 21 = _ := hR 21 (by omega)
          clear hR kM
          simp only [List.take_succ_cons, List.take_zero, List.map_cons, List.map_nil, puts, Act.put, List.setIfInBounds_toArray, List.set_cons_zero, List.set_cons_succ, List.drop_succ_cons, List.drop_zero, Nat.reduceAdd, Nat.zero_add, k21]
          have FA := Lib.hid (F4.out.trans hf)
          have m4 := hf.cellSome n4.out (fun x => x)
          clear hf k21 n2 n3 n4
          go_wp2
          go_ret
          refine ⟨_, rfl, ?_, FA.out⟩
          rw [HOK.out]
          have hh : (decide (0 ≤ nu) && decide (nu ≤ 1073741824)) = false := by rw [decide_eq_false (show ¬ nu ≤ 1073741824 by have := U1.out; omega)]; simp
          rw [okUs]
          simp only [hh]
          simp
      have u1 : decide (1073741824 < nu) = false := decide_eq_false hn1
      have HNU : Hid ((decide (0 ≤ nu) && decide (nu ≤ 1073741824)) = true) := by simp only [Hid]; rw [decide_eq_true (show 0 ≤ nu by omega), decide_eq_true (show nu ≤ 1073741824 by omega)]; rfl
      clear hn0 hn1
      by_cases hi0 : ix < 0
      · have v0 : decide (ix < 0) = true := decide_eq_true hi0
        have V0 := Lib.hid hi0
        clear hi0
        go_upto_region 8 with fail
        refine wp_region_st 22 Nothing [Is (.pointer (some ⟨gb, 2, none⟩)), Is (.int .i64 nu), Is (.bool false), Is (.bool false), Is (.pointer (some ⟨gb, 2, none⟩)), Is (.int .i64 nu), Is (.bool false), Is (.bool false), Is (.bool false), Is (.pointer (some ⟨gb, 3, none⟩)), Is (.int .i64 ix), Is (.bool true), Is (.bool true), Is (.bool true), Is (undef), Is (undef), Is (undef), Is (undef), Is (undef), Is (undef), Is (.bool true), Is (.bool true)] [] (fun _ => True) (fun _ _ => false) (by kernel_rfl) (by kernel_rfl) (by kernel_rfl) (by kernel_rfl) ⟨Is.stable _, Is.stable _, Is.stable _, Is.stable _, Is.stable _, Is.stable _, Is.stable _, Is.stable _, Is.stable _, Is.stable _, Is.stable _, Is.stable _, Is.stable _, Is.stable _, Is.stable _, Is.stable _, Is.stable _, Is.stable _, Is.stable _, Is.stable _, Is.stable _, Is.stable _, trivial⟩ trivial (fun _ _ _ _ h => h) trivial ?_ ?_
        · refine ⟨fun u w' d hf hR k1 k0 kM => ?_, fun u w' d hf hR k1 k0 kM => ?_, fun u w' d hf hR k1 k0 kM => ?_, fun u w' d hf hR k1 k0 kM => ?_, fun u w' d hf hR k1 k0 kM => ?_, fun u w' d hf hR k1 k0 kM => ?_, fun u w' d hf hR k1 k0 kM => ?_, fun u w' d hf hR k1 k0 kM => ?_, fun u w' d hf hR k1 k0 kM => ?_, fun u w' d hf hR k1 k0 kM => ?_, fun u w' d hf hR k1 k0 kM => ?_, fun u w' d hf hR k1 k0 kM => ?_, fun u w' d hf hR k1 k0 kM => ?_, fun u w' d hf hR k1 k0 kM => ?_, fun u w' d hf hR k1 k0 kM => ?_, fun u w' d hf hR k1 k0 kM => ?_, fun u w' d hf hR k1 k0 kM => ?_, fun u w' d hf hR k1 k0 kM => ?_, fun u w' d hf hR k1 k0 kM => ?_, fun u w' d hf hR k1 k0 kM => ?_, fun u w' d hf hR k1 k0 kM => ?_, fun u w' d hf hR k1 k0 kM => ?_, trivial⟩
          all_goals simp only [List.take_succ_cons, List.take_zero, List.map_cons, List.map_nil, puts, Act.put, List.setIfInBounds_toArray, List.set_cons_zero, List.set_cons_succ, Nat.reduceAdd, Nat.zero_add]
          · clear hR k1 k0 kM
            refine .inl ⟨by kernel_rfl, ?_⟩
            go_simp
            exact ⟨_, rfl, Fr.refl _ _, rfl, trivial⟩
          · have h0 : u 0 = _ := hR 0 (by kernel_rfl)
            clear hR k1 k0 kM
            simp only [h0]
            refine .inl ⟨by kernel_rfl, ?_⟩
            have q := hf.cellSome (n2.out) (fun x => x)
            go_simp
            exact ⟨_, rfl, Fr.refl _ _, rfl, trivial⟩
          · have h1 : u 1 = _ := hR 1 (by kernel_rfl)
            clear hR k1 k0 kM
            simp only [h1]
            refine .inl ⟨by kernel_rfl, ?_⟩
            go_simp
            exact ⟨_, rfl, Fr.refl _ _, rfl, trivial⟩
          · have h2 : u 2 = _ := hR 2 (by kernel_rfl)
            clear hR k1 k0 kM
            simp only [h2]
            refine .inl ⟨by kernel_rfl, ?_⟩
            go_simp
            exact ⟨_, rfl, Fr.refl _ _, rfl, trivial⟩
          · have h3 : u 3 = _ := hR 3 (by kernel_rfl)
            clear hR k1 k0 kM
            simp only [h3]
            refine .inl ⟨by kernel_rfl, ?_⟩
            go_simp
            exact ⟨_, rfl, Fr.refl _ _, rfl, trivial⟩
          · have h4 : u 4 = _ := hR 4 (by kernel_rfl)
            have h3 : u 3 = _ := hR 3 (by kernel_rfl)
            clear hR k1 k0 kM
            simp only [h4, h3]
            refine .inl ⟨by kernel_rfl, ?_⟩
            have q := hf.cellSome (n2.out) (fun x => x)
            go_simp
            exact ⟨_, rfl, Fr.refl _ _, rfl, trivial⟩
          · have h5 : u 5 = _ := hR 5 (by kernel_rfl)
            have h3 : u 3 = _ := hR 3 (by kernel_rfl)
            clear hR k1 k0 kM
            simp only [h5, h3]
            refine .inl ⟨by kernel_rfl, ?_⟩
            go_simp
            exact ⟨_, rfl, Fr.refl _ _, rfl, trivial⟩
          · have h3 : u 3 = _ := hR 3 (by kernel_rfl)
            have h6 : u 6 = _ := hR 6 (by kernel_rfl)
            clear hR k1 k0 kM
            simp only [h3, h6]
            refine .inl ⟨by kernel_rfl, ?_⟩
            go_simp
            exact ⟨_, rfl, Fr.refl _ _, rfl, trivial⟩
          · have h7 : u 7 = _ := hR 7 (by kernel_rfl)
            clear hR k1 k0 kM
            simp only [h7]
            refine .inl ⟨by kernel_rfl, ?_⟩
            go_simp
            exact ⟨_, rfl, Fr.refl _ _, rfl, trivial⟩
          · have h8 : u 8 = _ := hR 8 (by kernel_rfl)
            clear hR k1 k0 kM
            simp only [h8]
            refine .inl ⟨by kernel_rfl, ?_⟩
            go_simp
            exact ⟨_, rfl, Fr.refl _ _, rfl, trivial⟩
          · have h9 : u 9 = _ := hR 9 (by kernel_rfl)
            have h8 : u 8 = _ := hR 8 (by kernel_rfl)
            clear hR k1 k0 kM
            simp only [h9, h8]
            refine .inl ⟨by kernel_rfl, ?_⟩
            have q := hf.cellSome (n3.out) (fun x => x)
            go_simp
            exact ⟨_, rfl, Fr.refl _ _, rfl, trivial⟩
          · have h10 : u 10 = _ := hR 10 (by kernel_rfl)
            have h8 : u 8 = _ := hR 8 (by kernel_rfl)
            clear hR k1 k0 kM
            simp only [h10, h8]
            refine .inl ⟨by kernel_rfl, ?_⟩
            go_simp
            exact ⟨_, rfl, Fr.refl _ _, rfl, trivial⟩
          · have h8 : u 8 = _ := hR 8 (by kernel_rfl)
            have h11 : u 11 = _ := hR 11 (by kernel_rfl)
            clear hR k1 k0 kM
            simp only [h8, h11]
            refine .inl ⟨by kernel_rfl, ?_⟩
            go_simp
            exact ⟨_, rfl, Fr.refl _ _, rfl, trivial⟩
          · have h12 : u 12 = _ := hR 12 (by kernel_rfl)
            clear hR k1 k0 kM
            simp only [h12]
            refine .inl ⟨by kernel_rfl, ?_⟩
            go_simp
            exact ⟨_, rfl, Fr.refl _ _, rfl, trivial⟩
          · have h13 : u 13 = _ := hR 13 (by kernel_rfl)
            clear hR k1 k0 kM
            simp only [h13]
            exact .inr ⟨by kernel_rfl, _, rfl, Fr.refl _ _, rfl, trivial⟩
          · have h13 : u 13 = _ := hR 13 (by kernel_rfl)
            clear hR k1 k0 kM
            simp only [h13]
            exact .inr ⟨by kernel_rfl, _, rfl, Fr.refl _ _, rfl, trivial⟩
          · have h13 : u 13 = _ := hR 13 (by kernel_rfl)
            clear hR k1 k0 kM
            simp only [h13]
            exact .inr ⟨by kernel_rfl, _, rfl, Fr.refl _ _, rfl, trivial⟩
          · have h13 : u 13 = _ := hR 13 (by kernel_rfl)
            clear hR k1 k0 kM
            simp only [h13]
            exact .inr ⟨by kernel_rfl, _, rfl, Fr.refl _ _, rfl, trivial⟩
          · have h13 : u 13 = _ := hR 13 (by kernel_rfl)
            clear hR k1 k0 kM
            simp only [h13]
            exact .inr ⟨by kernel_rfl, _, rfl, Fr.refl _ _, rfl, trivial⟩
          · have h13 : u 13 = _ := hR 13 (by kernel_rfl)
            clear hR k1 k0 kM
            simp only [h13]
            exact .inr ⟨by kernel_rfl, _, rfl, Fr.refl _ _, rfl, trivial⟩
          · have h13 : u 13 = _ := hR 13 (by kernel_rfl)
            have h19 : u 19 = _ := hR 19 (by kernel_rfl)
            clear hR k1 k0 kM
            simp only [h13, h19]
            refine .inl ⟨by kernel_rfl, ?_⟩
            go_simp
            exact ⟨_, rfl, Fr.refl _ _, rfl, trivial⟩
          · have h20 : u 20 = _ := hR 20 (by kernel_rfl)
            clear hR k1 k0 kM
            simp only [h20]
            refine .inl ⟨by kernel_rfl, ?_⟩
            go_simp
            exact ⟨_, rfl, Fr.refl _ _, rfl, trivial⟩
        · intro u w' hf hR kM
          have k21 : u 21 = _ := hR 21 (by omega)
          clear hR kM
          simp only [List.take_succ_cons, List.take_zero, List.map_cons, List.map_nil, puts, Act.put, List.setIfInBounds_toArray, List.set_cons_zero, List.set_cons_succ, List.drop_succ_cons, List.drop_zero, Nat.reduceAdd, Nat.zero_add, k21]
          have FA := Lib.hid (F4.out.trans hf)
          have m4 := hf.cellSome n4.out (fun x => x)
          clear hf k21 n2 n3 n4
          go_wp2
          go_ret
          refine ⟨_, rfl, ?_, FA.out⟩
          rw [HOK.out]
          have hh : (decide (0 ≤ ix) && decide (ix ≤ mo)) = false := by rw [decide_eq_false (by have := V0.out; omega)]; rfl
          rw [okUs]
          simp only [hh]
          simp
      have v0 : decide (ix < 0) = false := decide_eq_false hi0
      by_cases hi1 : mo < ix
      · have v1 : decide (mo < ix) = true := decide_eq_true hi1
        have V1 := Lib.hid hi1
        clear hi0 hi1
        go_upto_region 8 with fail
        refine wp_region_st 22 Nothing [Is (.pointer (some ⟨gb, 2, none⟩)), Is (.int .i64 nu), Is (.bool false), Is (.bool false), Is (.pointer (some ⟨gb, 2, none⟩)), Is (.int .i64 nu), Is (.bool false), Is (.bool false), Is (.bool false), Is (.pointer (some ⟨gb, 3, none⟩)), Is (.int .i64 ix), Is (.bool false), Is (.bool false), Is (.bool false), Is (.pointer (some ⟨gb, 3, none⟩)), Is (.int .i64 ix), Is (.int .i64 (k : Int)), Is (.int .i64 mq), Is (.int .i64 mo), Is (.bool true), Is (.bool true), Is (.bool true)] [] (fun _ => True) (fun _ _ => false) (by kernel_rfl) (by kernel_rfl) (by kernel_rfl) (by kernel_rfl) ⟨Is.stable _, Is.stable _, Is.stable _, Is.stable _, Is.stable _, Is.stable _, Is.stable _, Is.stable _, Is.stable _, Is.stable _, Is.stable _, Is.stable _, Is.stable _, Is.stable _, Is.stable _, Is.stable _, Is.stable _, Is.stable _, Is.stable _, Is.stable _, Is.stable _, Is.stable _, trivial⟩ trivial (fun _ _ _ _ h => h) trivial ?_ ?_
        · refine ⟨fun u w' d hf hR k1 k0 kM => ?_, fun u w' d hf hR k1 k0 kM => ?_, fun u w' d hf hR k1 k0 kM => ?_, fun u w' d hf hR k1 k0 kM => ?_, fun u w' d hf hR k1 k0 kM => ?_, fun u w' d hf hR k1 k0 kM => ?_, fun u w' d hf hR k1 k0 kM => ?_, fun u w' d hf hR k1 k0 kM => ?_, fun u w' d hf hR k1 k0 kM => ?_, fun u w' d hf hR k1 k0 kM => ?_, fun u w' d hf hR k1 k0 kM => ?_, fun u w' d hf hR k1 k0 kM => ?_, fun u w' d hf hR k1 k0 kM => ?_, fun u w' d hf hR k1 k0 kM => ?_, fun u w' d hf hR k1 k0 kM => ?_, fun u w' d hf hR k1 k0 kM => ?_, fun u w' d hf hR k1 k0 kM => ?_, fun u w' d hf hR k1 k0 kM => ?_, fun u w' d hf hR k1 k0 kM => ?_, fun u w' d hf hR k1 k0 kM => ?_, fun u w' d hf hR k1 k0 kM => ?_, fun u w' d hf hR k1 k0 kM => ?_, trivial⟩
          all_goals simp only [List.take_succ_cons, List.take_zero, List.map_cons, List.map_nil, puts, Act.put, List.setIfInBounds_toArray, List.set_cons_zero, List.set_cons_succ, Nat.reduceAdd, Nat.zero_add]
          · clear hR k1 k0 kM
            refine .inl ⟨by kernel_rfl, ?_⟩
            go_simp
            exact ⟨_, rfl, Fr.refl _ _, rfl, trivial⟩
          · have h0 : u 0 = _ := hR 0 (by kernel_rfl)
            clear hR k1 k0 kM
            simp only [h0]
            refine .inl ⟨by kernel_rfl, ?_⟩
            have q := hf.cellSome (n2.out) (fun x => x)
            go_simp
            exact ⟨_, rfl, Fr.refl _ _, rfl, trivial⟩
          · have h1 : u 1 = _ := hR 1 (by kernel_rfl)
            clear hR k1 k0 kM
            simp only [h1]
            refine .inl ⟨by kernel_rfl, ?_⟩
            go_simp
            exact ⟨_, rfl, Fr.refl _ _, rfl, trivial⟩
          · have h2 : u 2 = _ := hR 2 (by kernel_rfl)
            clear hR k1 k0 kM
            simp only [h2]
            refine .inl ⟨by kernel_rfl, ?_⟩
            go_simp
            exact ⟨_, rfl, Fr.refl _ _, rfl, trivial⟩
          · have h3 : u 3 = _ := hR 3 (by kernel_rfl)
            clear hR k1 k0 kM
            simp only [h3]
            refine .inl ⟨by kernel_rfl, ?_⟩
            go_simp
            exact ⟨_, rfl, Fr.refl _ _, rfl, trivial⟩
          · have h4 : u 4 = _ := hR 4 (by kernel_rfl)
            have h3 : u 3 = _ := hR 3 (by kernel_rfl)
            clear hR k1 k0 kM
            simp only [h4, h3]
            refine .inl ⟨by kernel_rfl, ?_⟩
            have q := hf.cellSome (n2.out) (fun x => x)
            go_simp
            exact ⟨_, rfl, Fr.refl _ _, rfl, trivial⟩
          · have h5 : u 5 = _ := hR 5 (by kernel_rfl)
            have h3 : u 3 = _ := hR 3 (by kernel_rfl)
            clear hR k1 k0 kM
            simp only [h5, h3]
            refine .inl ⟨by kernel_rfl, ?_⟩
            go_simp
            exact ⟨_, rfl, Fr.refl _ _, rfl, trivial⟩
          · have h3 : u 3 = _ := hR 3 (by kernel_rfl)
            have h6 : u 6 = _ := hR 6 (by kernel_rfl)
            clear hR k1 k0 kM
            simp only [h3, h6]
            refine .inl ⟨by kernel_rfl, ?_⟩
            go_simp
            exact ⟨_, rfl, Fr.refl _ _, rfl, trivial⟩
          · have h7 : u 7 = _ := hR 7 (by kernel_rfl)
            clear hR k1 k0 kM
            simp only [h7]
            refine .inl ⟨by kernel_rfl, ?_⟩
            go_simp
            exact ⟨_, rfl, Fr.refl _ _, rfl, trivial⟩
          · have h8 : u 8 = _ := hR 8 (by kernel_rfl)
            clear hR k1 k0 kM
            simp only [h8]
            refine .inl ⟨by kernel_rfl, ?_⟩
            go_simp
            exact ⟨_, rfl, Fr.refl _ _, rfl, trivial⟩
          · have h9 : u 9 = _ := hR 9 (by kernel_rfl)
            have h8 : u 8 = _ := hR 8 (by kernel_rfl)
            clear hR k1 k0 kM
            simp only [h9, h8]
            refine .inl ⟨by kernel_rfl, ?_⟩
            have q := hf.cellSome (n3.out) (fun x => x)
            go_simp
            exact ⟨_, rfl, Fr.refl _ _, rfl, trivial⟩
          · have h10 : u 10 = _ := hR 10 (by kernel_rfl)
            have h8 : u 8 = _ := hR 8 (by kernel_rfl)
            clear hR k1 k0 kM
            simp only [h10, h8]
            refine .inl ⟨by kernel_rfl, ?_⟩
            go_simp
            exact ⟨_, rfl, Fr.refl _ _, rfl, trivial⟩
          · have h8 : u 8 = _ := hR 8 (by kernel_rfl)
            have h11 : u 11 = _ := hR 11 (by kernel_rfl)
            clear hR k1 k0 kM
            simp only [h8, h11]
            refine .inl ⟨by kernel_rfl, ?_⟩
            go_simp
            exact ⟨_, rfl, Fr.refl _ _, rfl, trivial⟩
          · have h12 : u 12 = _ := hR 12 (by kernel_rfl)
            clear hR k1 k0 kM
            simp only [h12]
            refine .inl ⟨by kernel_rfl, ?_⟩
            go_simp
            exact ⟨_, rfl, Fr.refl _ _, rfl, trivial⟩
          · have h13 : u 13 = _ := hR 13 (by kernel_rfl)
            clear hR k1 k0 kM
            simp only [h13]
            refine .inl ⟨by kernel_rfl, ?_⟩
            go_simp
            exact ⟨_, rfl, Fr.refl _ _, rfl, trivial⟩
          · have h14 : u 14 = _ := hR 14 (by kernel_rfl)
            have h13 : u 13 = _ := hR 13 (by kernel_rfl)
            clear hR k1 k0 kM
            simp only [h14, h13]
            refine .inl ⟨by kernel_rfl, ?_⟩
            have q := hf.cellSome (n3.out) (fun x => x)
            go_simp
            exact ⟨_, rfl, Fr.refl _ _, rfl, trivial⟩
          · have h13 : u 13 = _ := hR 13 (by kernel_rfl)
            clear hR k1 k0 kM
            simp only [h13]
            refine .inl ⟨by kernel_rfl, ?_⟩
            go_simp
            exact ⟨_, rfl, Fr.refl _ _, rfl, trivial⟩
          · have h16 : u 16 = _ := hR 16 (by kernel_rfl)
            have h13 : u 13 = _ := hR 13 (by kernel_rfl)
            clear hR k1 k0 kM
            simp only [h16, h13]
            refine .inl ⟨by kernel_rfl, ?_⟩
            go_simp
            refine (CM.out _).mono ?_
            rintro e w9 ⟨rfl, rfl⟩
            exact ⟨_, rfl, Fr.refl _ _, rfl, trivial⟩
          · have h17 : u 17 = _ := hR 17 (by kernel_rfl)
            have h13 : u 13 = _ := hR 13 (by kernel_rfl)
            clear hR k1 k0 kM
            simp only [h17, h13]
            refine .inl ⟨by kernel_rfl, ?_⟩
            have q := HMX.out
            go_simp
            exact ⟨_, rfl, Fr.refl _ _, rfl, trivial⟩
          · have h15 : u 15 = _ := hR 15 (by kernel_rfl)
            have h18 : u 18 = _ := hR 18 (by kernel_rfl)
            have h13 : u 13 = _ := hR 13 (by kernel_rfl)
            clear hR k1 k0 kM
            simp only [h15, h18, h13]
            refine .inl ⟨by kernel_rfl, ?_⟩
            go_simp
            exact ⟨_, rfl, Fr.refl _ _, rfl, trivial⟩
          · have h13 : u 13 = _ := hR 13 (by kernel_rfl)
            have h19 : u 19 = _ := hR 19 (by kernel_rfl)
            clear hR k1 k0 kM
            simp only [h13, h19]
            refine .inl ⟨by kernel_rfl, ?_⟩
            go_simp
            exact ⟨_, rfl, Fr.refl _ _, rfl, trivial⟩
          · have h20 : u 20 = _ := hR 20 (by kernel_rfl)
            clear hR k1 k0 kM
            simp only [h20]
            refine .inl ⟨by kernel_rfl, ?_⟩
            go_simp
            exact ⟨_, rfl, Fr.refl _ _, rfl, trivial⟩
        · intro u w' hf hR kM
          have k21 : u 21 = _ := hR 21 (by omega)
          clear hR kM
          simp only [List.take_succ_cons, List.take_zero, List.map_cons, List.map_nil, puts, Act.put, List.setIfInBounds_toArray, List.set_cons_zero, List.set_cons_succ, List.drop_succ_cons, List.drop_zero, Nat.reduceAdd, Nat.zero_add, k21]
          have FA := Lib.hid (F4.out.trans hf)
          have m4 := hf.cellSome n4.out (fun x => x)
          clear hf k21 n2 n3 n4
          go_wp2
          go_ret
          refine ⟨_, rfl, ?_, FA.out⟩
          rw [HOK.out]
          have hh : (decide (0 ≤ ix) && decide (ix ≤ mo)) = false := by rw [decide_eq_false (show ¬ ix ≤ mo by have := V1.out; omega)]; simp
          rw [okUs]
          simp only [hh]
          simp
      have v1 : decide (mo < ix) = false := decide_eq_false hi1
      have HIX : Hid ((decide (0 ≤ ix) && decide (ix ≤ mo)) = true) := by simp only [Hid]; rw [decide_eq_true (show 0 ≤ ix by omega), decide_eq_true (show ix ≤ mo by omega)]; rfl
      clear hi0 hi1
      go_upto_region 8 with fail
      refine wp_region_st 22 Nothing [Is (.pointer (some ⟨gb, 2, none⟩)), Is (.int .i64 nu), Is (.bool false), Is (.bool false), Is (.pointer (some ⟨gb, 2, none⟩)), Is (.int .i64 nu), Is (.bool false), Is (.bool false), Is (.bool false), Is (.pointer (some ⟨gb, 3, none⟩)), Is (.int .i64 ix), Is (.bool false), Is (.bool false), Is (.bool false), Is (.pointer (some ⟨gb, 3, none⟩)), Is (.int .i64 ix), Is (.int .i64 (k : Int)), Is (.int .i64 mq), Is (.int .i64 mo), Is (.bool false), Is (.bool false), Is (.bool false)] [] (fun _ => True) (fun _ _ => false) (by kernel_rfl) (by kernel_rfl) (by kernel_rfl) (by kernel_rfl) ⟨Is.stable _, Is.stable _, Is.stable _, Is.stable _, Is.stable _, Is.stable _, Is.stable _, Is.stable _, Is.stable _, Is.stable _, Is.stable _, Is.stable _, Is.stable _, Is.stable _, Is.stable _, Is.stable _, Is.stable _, Is.stable _, Is.stable _, Is.stable _, Is.stable _, Is.stable _, trivial⟩ trivial (fun _ _ _ _ h => h) trivial ?_ ?_
      · refine ⟨fun u w' d hf hR k1 k0 kM => ?_, fun u w' d hf hR k1 k0 kM => ?_, fun u w' d hf hR k1 k0 kM => ?_, fun u w' d hf hR k1 k0 kM => ?_, fun u w' d hf hR k1 k0 kM => ?_, fun u w' d hf hR k1 k0 kM => ?_, fun u w' d hf hR k1 k0 kM => ?_, fun u w' d hf hR k1 k0 kM => ?_, fun u w' d hf hR k1 k0 kM => ?_, fun u w' d hf hR k1 k0 kM => ?_, fun u w' d hf hR k1 k0 kM => ?_, fun u w' d hf hR k1 k0 kM => ?_, fun u w' d hf hR k1 k0 kM => ?_, fun u w' d hf hR k1 k0 kM => ?_, fun u w' d hf hR k1 k0 kM => ?_, fun u w' d hf hR k1 k0 kM => ?_, fun u w' d hf hR k1 k0 kM => ?_, fun u w' d hf hR k1 k0 kM => ?_, fun u w' d hf hR k1 k0 kM => ?_, fun u w' d hf hR k1 k0 kM => ?_, fun u w' d hf hR k1 k0 kM => ?_, fun u w' d hf hR k1 k0 kM => ?_, trivial⟩
        all_goals simp only [List.take_succ_cons, List.take_zero, List.map_cons, List.map_nil, puts, Act.put, List.setIfInBounds_toArray, List.set_cons_zero, List.set_cons_succ, Nat.reduceAdd, Nat.zero_add]
        · clear hR k1 k0 kM
          refine .inl ⟨by kernel_rfl, ?_⟩
          go_simp
          exact ⟨_, rfl, Fr.refl _ _, rfl, trivial⟩
        · have h0 : u 0 = _ := hR 0 (by kernel_rfl)
          clear hR k1 k0 kM
          simp only [h0]
          refine .inl ⟨by kernel_rfl, ?_⟩
          have q := hf.cellSome (n2.out) (fun x => x)
          go_simp
          exact ⟨_, rfl, Fr.refl _ _, rfl, trivial⟩
        · have h1 : u 1 = _ := hR 1 (by kernel_rfl)
          clear hR k1 k0 kM
          simp only [h1]
          refine .inl ⟨by kernel_rfl, ?_⟩
          go_simp
          exact ⟨_, rfl, Fr.refl _ _, rfl, trivial⟩
        · have h2 : u 2 = _ := hR 2 (by kernel_rfl)
          clear hR k1 k0 kM
          simp only [h2]
          refine .inl ⟨by kernel_rfl, ?_⟩
          go_simp
          exact ⟨_, rfl, Fr.refl _ _, rfl, trivial⟩
        · have h3 : u 3 = _ := hR 3 (by kernel_rfl)
          clear hR k1 k0 kM
          simp only [h3]
          refine .inl ⟨by kernel_rfl, ?_⟩
          go_simp
          exact ⟨_, rfl, Fr.refl _ _, rfl, trivial⟩
        · have h4 : u 4 = _ := hR 4 (by kernel_rfl)
          have h3 : u 3 = _ := hR 3 (by kernel_rfl)
          clear hR k1 k0 kM
          simp only [h4, h3]
          refine .inl ⟨by kernel_rfl, ?_⟩
          have q := hf.cellSome (n2.out) (fun x => x)
          go_simp
          exact ⟨_, rfl, Fr.refl _ _, rfl, trivial⟩
        · have h5 : u 5 = _ := hR 5 (by kernel_rfl)
          have h3 : u 3 = _ := hR 3 (by kernel_rfl)
          clear hR k1 k0 kM
          simp only [h5, h3]
          refine .inl ⟨by kernel_rfl, ?_⟩
          go_simp
          exact ⟨_, rfl, Fr.refl _ _, rfl, trivial⟩
        · have h3 : u 3 = _ := hR 3 (by kernel_rfl)
          have h6 : u 6 = _ := hR 6 (by kernel_rfl)
          clear hR k1 k0 kM
          simp only [h3, h6]
          refine .inl ⟨by kernel_rfl, ?_⟩
          go_simp
          exact ⟨_, rfl, Fr.refl _ _, rfl, trivial⟩
        · have h7 : u 7 = _ := hR 7 (by kernel_rfl)
          clear hR k1 k0 kM
          simp only [h7]
          refine .inl ⟨by kernel_rfl, ?_⟩
          go_simp
          exact ⟨_, rfl, Fr.refl _ _, rfl, trivial⟩
        · have h8 : u 8 = _ := hR 8 (by kernel_rfl)
          clear hR k1 k0 kM
          simp only [h8]
          refine .inl ⟨by kernel_rfl, ?_⟩
          go_simp
          exact ⟨_, rfl, Fr.refl _ _, rfl, trivial⟩
        · have h9 : u 9 = _ := hR 9 (by kernel_rfl)
          have h8 : u 8 = _ := hR 8 (by kernel_rfl)
          clear hR k1 k0 kM
          simp only [h9, h8]
          refine .inl ⟨by kernel_rfl, ?_⟩
          have q := hf.cellSome (n3.out) (fun x => x)
          go_simp
          exact ⟨_, rfl, Fr.refl _ _, rfl, trivial⟩
        · have h10 : u 10 = _ := hR 10 (by kernel_rfl)
          have h8 : u 8 = _ := hR 8 (by kernel_rfl)
          clear hR k1 k0 kM
          simp only [h10, h8]
          refine .inl ⟨by kernel_rfl, ?_⟩
          go_simp
          exact ⟨_, rfl, Fr.refl _ _, rfl, trivial⟩
        · have h8 : u 8 = _ := hR 8 (by kernel_rfl)
          have h11 : u 11 = _ := hR 11 (by kernel_rfl)
          clear hR k1 k0 kM
          simp only [h8, h11]
          refine .inl ⟨by kernel_rfl, ?_⟩
          go_simp
          exact ⟨_, rfl, Fr.refl _ _, rfl, trivial⟩
        · have h12 : u 12 = _ := hR 12 (by kernel_rfl)
          clear hR k1 k0 kM
          simp only [h12]
          refine .inl ⟨by kernel_rfl, ?_⟩
          go_simp
          exact ⟨_, rfl, Fr.refl _ _, rfl, trivial⟩
        · have h13 : u 13 = _ := hR 13 (by kernel_rfl)
          clear hR k1 k0 kM
          simp only [h13]
          refine .inl ⟨by kernel_rfl, ?_⟩
          go_simp
          exact ⟨_, rfl, Fr.refl _ _, rfl, trivial⟩
        · have h14 : u 14 = _ := hR 14 (by kernel_rfl)
          have h13 : u 13 = _ := hR 13 (by kernel_rfl)
          clear hR k1 k0 kM
          simp only [h14, h13]
          refine .inl ⟨by kernel_rfl, ?_⟩
          have q := hf.cellSome (n3.out) (fun x => x)
          go_simp
          exact ⟨_, rfl, Fr.refl _ _, rfl, trivial⟩
        · have h13 : u 13 = _ := hR 13 (by kernel_rfl)
          clear hR k1 k0 kM
          simp only [h13]
          refine .inl ⟨by kernel_rfl, ?_⟩
          go_simp
          exact ⟨_, rfl, Fr.refl _ _, rfl, trivial⟩
        · have h16 : u 16 = _ := hR 16 (by kernel_rfl)
          have h13 : u 13 = _ := hR 13 (by kernel_rfl)
          clear hR k1 k0 kM
          simp only [h16, h13]
          refine .inl ⟨by kernel_rfl, ?_⟩
          go_simp
          refine (CM.out _).mono ?_
          rintro e w9 ⟨rfl, rfl⟩
          exact ⟨_, rfl, Fr.refl _ _, rfl, trivial⟩
        · have h17 : u 17 = _ := hR 17 (by kernel_rfl)
          have h13 : u 13 = _ := hR 13 (by kernel_rfl)
          clear hR k1 k0 kM
          simp only [h17, h13]
          refine .inl ⟨by kernel_rfl, ?_⟩
          have q := HMX.out
          go_simp
          exact ⟨_, rfl, Fr.refl _ _, rfl, trivial⟩
        · have h15 : u 15 = _ := hR 15 (by kernel_rfl)
          have h18 : u 18 = _ := hR 18 (by kernel_rfl)
          have h13 : u 13 = _ := hR 13 (by kernel_rfl)
          clear hR k1 k0 kM
          simp only [h15, h18, h13]
          refine .inl ⟨by kernel_rfl, ?_⟩
          go_simp
          exact ⟨_, rfl, Fr.refl _ _, rfl, trivial⟩
        · have h13 : u 13 = _ := hR 13 (by kernel_rfl)
          have h19 : u 19 = _ := hR 19 (by kernel_rfl)
          clear hR k1 k0 kM
          simp only [h13, h19]
          refine .inl ⟨by kernel_rfl, ?_⟩
          go_simp
          exact ⟨_, rfl, Fr.refl _ _, rfl, trivial⟩
        · have h20 : u 20 = _ := hR 20 (by kernel_rfl)
          clear hR k1 k0 kM
          simp only [h20]
          refine .inl ⟨by kernel_rfl, ?_⟩
          go_simp
          exact ⟨_, rfl, Fr.refl _ _, rfl, trivial⟩
      · intro u w' hf hR kM
        have k21 : u 21 = _ := hR 21 (by omega)
        clear hR kM
        simp only [List.take_succ_cons, List.take_zero, List.map_cons, List.map_nil, puts, Act.put, List.setIfInBounds_toArray, List.set_cons_zero, List.set_cons_succ, List.drop_succ_cons, List.drop_zero, Nat.reduceAdd, Nat.zero_add, k21]
        have FA := Lib.hid (F4.out.trans hf)
        have m4 := hf.cellSome n4.out (fun x => x)
        clear hf k21 n2 n3 n4
        go_wp2_with fail
        refine (CT.out _).mono ?_
        rintro e w9 ⟨rfl, rfl⟩
        go_wp2
        go_ret
        refine ⟨_, rfl, ?_, FA.out⟩
        rw [HOK.out]
        rw [okUs]
        simp only [He_tx.out, Hv1.out, HNU.out, HIX.out]
        simp
set_option maxRecDepth 100000 in
set_option maxHeartbeats 8000000 in
theorem rCheck_1101 (k : Nat) (ow : ByteArray) (nu ix : Int) (tx wd : ByteArray) (mo : Int) (w : World) (hk : 1 ≤ k ∧ k ≤ 20) (hu : usaL[k]? = some ⟨wd, true, true, false, true, mo⟩) (ho : ow.size ≤ 1099511627776) (ht : tx.size ≤ 1099511627776) (_hmo : 0 ≤ mo) (hmo0 : mo = 0) :
    Calls Tryd.prog 80 #[.agg #[.int .i64 (k : Int), .string ow, .int .i64 nu, .int .i64 ix, .string tx]] w (Checked w ⟨(k : Int), ow, nu, ix, tx⟩) := by
  have HOK : Hid (okNm ⟨(k : Int), ow, nu, ix, tx⟩ = okUs ⟨wd, true, true, false, true, mo⟩ ⟨(k : Int), ow, nu, ix, tx⟩) := by
    simp only [Hid, okNm, Int.toNat_natCast, hu]
    rw [decide_eq_true (show (1 : Int) ≤ (k : Int) by omega), decide_eq_true (show (k : Int) ≤ 20 by omega)]
    rfl
  have HOW := Lib.hid ho
  have HTX := Lib.hid ht
  have CO : Hid (∀ w, Calls Tryd.prog 97 #[.int .i64 (k : Int)] w (SameW w (.bool true))) := fun w => rOwned_any k _ w hk hu
  have CN : Hid (∀ w, Calls Tryd.prog 99 #[.int .i64 (k : Int)] w (SameW w (.bool true))) := fun w => rNumbered_any k _ w hk hu
  have CT : Hid (∀ w, Calls Tryd.prog 101 #[.int .i64 (k : Int)] w (SameW w (.bool true))) := fun w => rTexted_any k _ w hk hu
  obtain ⟨mq, hmq⟩ : ∃ mq : Int, mq = (if false = true then mo else -1) := ⟨_, rfl⟩
  have CM : Hid (∀ w, Calls Tryd.prog 100 #[.int .i64 (k : Int)] w (SameW w (.int .i64 mq))) := fun w => by rw [hmq]; exact rMost_any k _ w hk hu
  have hmq2 : mq = -1 := by rw [hmq]; simp
  have tq : decide (mq < 0) = true := decide_eq_true (by omega)
  have HMX : Hid (max mq 0 = mo) := by simp only [Hid]; omega
  have k1 : decide ((k : Int) < 1) = false := decide_eq_false (by omega)
  have k1' : ¬ (k : Int) < 1 := by omega
  have k2 : decide ((20 : Int) < (k : Int)) = false := decide_eq_false (by omega)
  have k2' : ¬ (20 : Int) < (k : Int) := by omega
  clear hk hu ho ht hmq hmq2
  go_enter Tryd.func80, Tryd.ntmps80
  go_wp2_with (refine wpList_boxBlk rfl 40 (.tmp 0) rfl #[.int .i64 (k : Int), .string ow, .int .i64 nu, .int .i64 ix, .string tx] rfl ?_)
  intro w1 n1
  have F1 := Lib.hid n1.fr
  have NB := Lib.hid n1.blk
  have c0 : w1.cell? ⟨w.heap.size, 0, none⟩ = some (.int .i64 (k : Int)) := n1.blk.cell 0
  have c1 : w1.cell? ⟨w.heap.size, 1, none⟩ = some (.string ow) := n1.blk.cell 1
  have c2 : w1.cell? ⟨w.heap.size, 2, none⟩ = some (.int .i64 nu) := n1.blk.cell 2
  have c3 : w1.cell? ⟨w.heap.size, 3, none⟩ = some (.int .i64 ix) := n1.blk.cell 3
  have c4 : w1.cell? ⟨w.heap.size, 4, none⟩ = some (.string tx) := n1.blk.cell 4
  clear n1
  generalize w.heap.size = gb at *
  go_wp2_with fail
  refine (CO.out _).mono ?_
  rintro e w9 ⟨rfl, rfl⟩
  go_wp2_with fail
  refine (CN.out _).mono ?_
  rintro e w9 ⟨rfl, rfl⟩
  go_wp2_with fail
  refine (CM.out _).mono ?_
  rintro e w9 ⟨rfl, rfl⟩
  by_cases e_ix : ix = 0
  · have He_ix := Lib.hid e_ix
    have t_e_ix := beq0 e_ix
    clear e_ix
    go_wp2_with fail
    refine (CT.out _).mono ?_
    rintro e w9 ⟨rfl, rfl⟩
    go_wp2_with fail
    refine (CO.out _).mono ?_
    rintro e w9 ⟨rfl, rfl⟩
    have K1 := Lib.hid (rValid_any ow w1 HOW.out)
    obtain ⟨v1, hv1⟩ : ∃ v1, validO ow = v1 := ⟨_, rfl⟩
    have Hv1 := Lib.hid hv1
    rw [hv1] at K1
    clear hv1
    go_wp2_with fail
    refine K1.out.mono ?_
    rintro e w4 ⟨rfl, f4⟩
    have F4 := Lib.hid (F1.out.trans f4)
    have n2 := Lib.hid (f4.cellSome c2 (fun x => x))
    have n3 := Lib.hid (f4.cellSome c3 (fun x => x))
    have n4 := Lib.hid (f4.cellSome c4 (fun x => x))
    clear f4 c0 c1 c2 c3 c4
    cases v1
    · go_wp2
      go_ret
      refine ⟨_, rfl, ?_, F4.out⟩
      rw [HOK.out]
      have hh := Hv1.out
      simp [okUs, hh]
    · by_cases hn0 : nu < 0
      · have u0 : decide (nu < 0) = true := decide_eq_true hn0
        have U0 := Lib.hid hn0
        clear hn0
        go_upto_region 8 with fail
        refine wp_region_st 22 Nothing [Is (.pointer (some ⟨gb, 2, none⟩)), Is (.int .i64 nu), Is (.bool true), Is (.bool true), Is (undef), Is (undef), Is (undef), Is (.bool true), Is (.bool true), Is (undef), Is (undef), Is (undef), Is (.bool true), Is (.bool true), Is (undef), Is (undef), Is (undef), Is (undef), Is (undef), Is (undef), Is (.bool true), Is (.bool true)] [] (fun _ => True) (fun _ _ => false) (by kernel_rfl) (by kernel_rfl) (by kernel_rfl) (by kernel_rfl) ⟨Is.stable _, Is.stable _, Is.stable _, Is.stable _, Is.stable _, Is.stable _, Is.stable _, Is.stable _, Is.stable _, Is.stable _, Is.stable _, Is.stable _, Is.stable _, Is.stable _, Is.stable _, Is.stable _, Is.stable _, Is.stable _, Is.stable _, Is.stable _, Is.stable _, Is.stable _, trivial⟩ trivial (fun _ _ _ _ h => h) trivial ?_ ?_
        · refine ⟨fun u w' d hf hR k1 k0 kM => ?_, fun u w' d hf hR k1 k0 kM => ?_, fun u w' d hf hR k1 k0 kM => ?_, fun u w' d hf hR k1 k0 kM => ?_, fun u w' d hf hR k1 k0 kM => ?_, fun u w' d hf hR k1 k0 kM => ?_, fun u w' d hf hR k1 k0 kM => ?_, fun u w' d hf hR k1 k0 kM => ?_, fun u w' d hf hR k1 k0 kM => ?_, fun u w' d hf hR k1 k0 kM => ?_, fun u w' d hf hR k1 k0 kM => ?_, fun u w' d hf hR k1 k0 kM => ?_, fun u w' d hf hR k1 k0 kM => ?_, fun u w' d hf hR k1 k0 kM => ?_, fun u w' d hf hR k1 k0 kM => ?_, fun u w' d hf hR k1 k0 kM => ?_, fun u w' d hf hR k1 k0 kM => ?_, fun u w' d hf hR k1 k0 kM => ?_, fun u w' d hf hR k1 k0 kM => ?_, fun u w' d hf hR k1 k0 kM => ?_, fun u w' d hf hR k1 k0 kM => ?_, fun u w' d hf hR k1 k0 kM => ?_, trivial⟩
          all_goals simp only [List.take_succ_cons, List.take_zero, List.map_cons, List.map_nil, puts, Act.put, List.setIfInBounds_toArray, List.set_cons_zero, List.set_cons_succ, Nat.reduceAdd, Nat.zero_add]
          · clear hR k1 k0 kM
            refine .inl ⟨by kernel_rfl, ?_⟩
            go_simp
            exact ⟨_, rfl, Fr.refl _ _, rfl, trivial⟩
          · have h0 : u 0 = _ := hR 0 (by kernel_rfl)
            clear hR k1 k0 kM
            simp only [h0]
            refine .inl ⟨by kernel_rfl, ?_⟩
            have q := hf.cellSome (n2.out) (fun x => x)
            go_simp
            exact ⟨_, rfl, Fr.refl _ _, rfl, trivial⟩
          · have h1 : u 1 = _ := hR 1 (by kernel_rfl)
            clear hR k1 k0 kM
            simp only [h1]
            refine .inl ⟨by kernel_rfl, ?_⟩
            go_simp
            exact ⟨_, rfl, Fr.refl _ _, rfl, trivial⟩
          · have h2 : u 2 = _ := hR 2 (by kernel_rfl)
            clear hR k1 k0 kM
            simp only [h2]
            refine .inl ⟨by kernel_rfl, ?_⟩
            go_simp
            exact ⟨_, rfl, Fr.refl _ _, rfl, trivial⟩
          · have h3 : u 3 = _ := hR 3 (by kernel_rfl)
            clear hR k1 k0 kM
            simp only [h3]
            exact .inr ⟨by kernel_rfl, _, rfl, Fr.refl _ _, rfl, trivial⟩
          · have h3 : u 3 = _ := hR 3 (by kernel_rfl)
            clear hR k1 k0 kM
            simp only [h3]
            exact .inr ⟨by kernel_rfl, _, rfl, Fr.refl _ _, rfl, trivial⟩
          · have h3 : u 3 = _ := hR 3 (by kernel_rfl)
            clear hR k1 k0 kM
            simp only [h3]
            exact .inr ⟨by kernel_rfl, _, rfl, Fr.refl _ _, rfl, trivial⟩
          · have h3 : u 3 = _ := hR 3 (by kernel_rfl)
            have h6 : u 6 = _ := hR 6 (by kernel_rfl)
            clear hR k1 k0 kM
            simp only [h3, h6]
            refine .inl ⟨by kernel_rfl, ?_⟩
            go_simp
            exact ⟨_, rfl, Fr.refl _ _, rfl, trivial⟩
          · have h7 : u 7 = _ := hR 7 (by kernel_rfl)
            clear hR k1 k0 kM
            simp only [h7]
            refine .inl ⟨by kernel_rfl, ?_⟩
            go_simp
            exact ⟨_, rfl, Fr.refl _ _, rfl, trivial⟩
          · have h8 : u 8 = _ := hR 8 (by kernel_rfl)
            clear hR k1 k0 kM
            simp only [h8]
            exact .inr ⟨by kernel_rfl, _, rfl, Fr.refl _ _, rfl, trivial⟩
          · have h8 : u 8 = _ := hR 8 (by kernel_rfl)
            clear hR k1 k0 kM
            simp only [h8]
            exact .inr ⟨by kernel_rfl, _, rfl, Fr.refl _ _, rfl, trivial⟩
          · have h8 : u 8 = _ := hR 8 (by kernel_rfl)
            clear hR k1 k0 kM
            simp only [h8]
            exact .inr ⟨by kernel_rfl, _, rfl, Fr.refl _ _, rfl, trivial⟩
          · have h8 : u 8 = _ := hR 8 (by kernel_rfl)
            have h11 : u 11 = _ := hR 11 (by kernel_rfl)
            clear hR k1 k0 kM
            simp only [h8, h11]
            refine .inl ⟨by kernel_rfl, ?_⟩
            go_simp
            exact ⟨_, rfl, Fr.refl _ _, rfl, trivial⟩
          · have h12 : u 12 = _ := hR 12 (by kernel_rfl)
            clear hR k1 k0 kM
            simp only [h12]
            refine .inl ⟨by kernel_rfl, ?_⟩
            go_simp
            exact ⟨_, rfl, Fr.refl _ _, rfl, trivial⟩
          · have h13 : u 13 = _ := hR 13 (by kernel_rfl)
            clear hR k1 k0 kM
            simp only [h13]
            exact .inr ⟨by kernel_rfl, _, rfl, Fr.refl _ _, rfl, trivial⟩
          · have h13 : u 13 = _ := hR 13 (by kernel_rfl)
            clear hR k1 k0 kM
            simp only [h13]
            exact .inr ⟨by kernel_rfl, _, rfl, Fr.refl _ _, rfl, trivial⟩
          · have h13 : u 13 = _ := hR 13 (by kernel_rfl)
            clear hR k1 k0 kM
            simp only [h13]
            exact .inr ⟨by kernel_rfl, _, rfl, Fr.refl _ _, rfl, trivial⟩
          · have h13 : u 13 = _ := hR 13 (by kernel_rfl)
            clear hR k1 k0 kM
            simp only [h13]
            exact .inr ⟨by kernel_rfl, _, rfl, Fr.refl _ _, rfl, trivial⟩
          · have h13 : u 13 = _ := hR 13 (by kernel_rfl)
            clear hR k1 k0 kM
            simp only [h13]
            exact .inr ⟨by kernel_rfl, _, rfl, Fr.refl _ _, rfl, trivial⟩
          · have h13 : u 13 = _ := hR 13 (by kernel_rfl)
            clear hR k1 k0 kM
            simp only [h13]
            exact .inr ⟨by kernel_rfl, _, rfl, Fr.refl _ _, rfl, trivial⟩
          · have h13 : u 13 = _ := hR 13 (by kernel_rfl)
            have h19 : u 19 = _ := hR 19 (by kernel_rfl)
            clear hR k1 k0 kM
            simp only [h13, h19]
            refine .inl ⟨by kernel_rfl, ?_⟩
            go_simp
            exact ⟨_, rfl, Fr.refl _ _, rfl, trivial⟩
          · have h20 : u 20 = _ := hR 20 (by kernel_rfl)
            clear hR k1 k0 kM
            simp only [h20]
            refine .inl ⟨by kernel_rfl, ?_⟩
            go_simp
            exact ⟨_, rfl, Fr.refl _ _, rfl, trivial⟩
        · intro u w' hf hR kM
          have k21 : u 21 = _ := hR 21 (by omega)
          clear hR kM
          simp only [List.take_succ_cons, List.take_zero, List.map_cons, List.map_nil, puts, Act.put, List.setIfInBounds_toArray, List.set_cons_zero, List.set_cons_succ, List.drop_succ_cons, List.drop_zero, Nat.reduceAdd, Nat.zero_add, k21]
          have FA := Lib.hid (F4.out.trans hf)
          have m4 := hf.cellSome n4.out (fun x => x)
          clear hf k21 n2 n3 n4
          go_wp2
          go_ret
          refine ⟨_, rfl, ?_, FA.out⟩
          rw [HOK.out]
          have hh : (decide (0 ≤ nu) && decide (nu ≤ 1073741824)) = false := by rw [decide_eq_false (by have := U0.out; omega)]; rfl
          rw [okUs]
          simp only [hh]
          simp
      have u0 : decide (nu < 0) = false := decide_eq_false hn0
      by_cases hn1 : 1073741824 < nu
      · have u1 : decide (1073741824 < nu) = true := decide_eq_true hn1
        have U1 := Lib.hid hn1
        clear hn0 hn1
        go_upto_region 8 with fail
        refine wp_region_st 22 Nothing [Is (.pointer (some ⟨gb, 2, none⟩)), Is (.int .i64 nu), Is (.bool false), Is (.bool false), Is (.pointer (some ⟨gb, 2, none⟩)), Is (.int .i64 nu), Is (.bool true), Is (.bool true), Is (.bool true), Is (undef), Is (undef), Is (undef), Is (.bool true), Is (.bool true), Is (undef), Is (undef), Is (undef), Is (undef), Is (undef), Is (undef), Is (.bool true), Is (.bool true)] [] (fun _ => True) (fun _ _ => false) (by kernel_rfl) (by kernel_rfl) (by kernel_rfl) (by kernel_rfl) ⟨Is.stable _, Is.stable _, Is.stable _, Is.stable _, Is.stable _, Is.stable _, Is.stable _, Is.stable _, Is.stable _, Is.stable _, Is.stable _, Is.stable _, Is.stable _, Is.stable _, Is.stable _, Is.stable _, Is.stable _, Is.stable _, Is.stable _, Is.stable _, Is.stable _, Is.stable _, trivial⟩ trivial (fun _ _ _ _ h => h) trivial ?_ ?_
        · refine ⟨fun u w' d hf hR k1 k0 kM => ?_, fun u w' d hf hR k1 k0 kM => ?_, fun u w' d hf hR k1 k0 kM => ?_, fun u w' d hf hR k1 k0 kM => ?_, fun u w' d hf hR k1 k0 kM => ?_, fun u w' d hf hR k1 k0 kM => ?_, fun u w' d hf hR k1 k0 kM => ?_, fun u w' d hf hR k1 k0 kM => ?_, fun u w' d hf hR k1 k0 kM => ?_, fun u w' d hf hR k1 k0 kM => ?_, fun u w' d hf hR k1 k0 kM => ?_, fun u w' d hf hR k1 k0 kM => ?_, fun u w' d hf hR k1 k0 kM => ?_, fun u w' d hf hR k1 k0 kM => ?_, fun u w' d hf hR k1 k0 kM => ?_, fun u w' d hf hR k1 k0 kM => ?_, fun u w' d hf hR k1 k0 kM => ?_, fun u w' d hf hR k1 k0 kM => ?_, fun u w' d hf hR k1 k0 kM => ?_, fun u w' d hf hR k1 k0 kM => ?_, fun u w' d hf hR k1 k0 kM => ?_, fun u w' d hf hR k1 k0 kM => ?_, trivial⟩
          all_goals simp only [List.take_succ_cons, List.take_zero, List.map_cons, List.map_nil, puts, Act.put, List.setIfInBounds_toArray, List.set_cons_zero, List.set_cons_succ, Nat.reduceAdd, Nat.zero_add]
          · clear hR k1 k0 kM
            refine .inl ⟨by kernel_rfl, ?_⟩
            go_simp
            exact ⟨_, rfl, Fr.refl _ _, rfl, trivial⟩
          · have h0 : u 0 = _ := hR 0 (by kernel_rfl)
            clear hR k1 k0 kM
            simp only [h0]
            refine .inl ⟨by kernel_rfl, ?_⟩
            have q := hf.cellSome (n2.out) (fun x => x)
            go_simp
            exact ⟨_, rfl, Fr.refl _ _, rfl, trivial⟩
          · have h1 : u 1 = _ := hR 1 (by kernel_rfl)
            clear hR k1 k0 kM
            simp only [h1]
            refine .inl ⟨by kernel_rfl, ?_⟩
            go_simp
            exact ⟨_, rfl, Fr.refl _ _, rfl, trivial⟩
          · have h2 : u 2 = _ := hR 2 (by kernel_rfl)
            clear hR k1 k0 kM
            simp only [h2]
            refine .inl ⟨by kernel_rfl, ?_⟩
            go_simp
            exact ⟨_, rfl, Fr.refl _ _, rfl, trivial⟩
          · have h3 : u 3 = _ := hR 3 (by kernel_rfl)
            clear hR k1 k0 kM
            simp only [h3]
            refine .inl ⟨by kernel_rfl, ?_⟩
            go_simp
            exact ⟨_, rfl, Fr.refl _ _, rfl, trivial⟩
          · have h4 : u 4 = _ := hR 4 (by kernel_rfl)
            have h3 : u 3 = _ := hR 3 (by kernel_rfl)
            clear hR k1 k0 kM
            simp only [h4, h3]
            refine .inl ⟨by kernel_rfl, ?_⟩
            have q := hf.cellSome (n2.out) (fun x => x)
            go_simp
            exact ⟨_, rfl, Fr.refl _ _, rfl, trivial⟩
          · have h5 : u 5 = _ := hR 5 (by kernel_rfl)
            have h3 : u 3 = _ := hR 3 (by kernel_rfl)
            clear hR k1 k0 kM
            simp only [h5, h3]
            refine .inl ⟨by kernel_rfl, ?_⟩
            go_simp
            exact ⟨_, rfl, Fr.refl _ _, rfl, trivial⟩
          · have h3 : u 3 = _ := hR 3 (by kernel_rfl)
            have h6 : u 6 = _ := hR 6 (by kernel_rfl)
            clear hR k1 k0 kM
            simp only [h3, h6]
            refine .inl ⟨by kernel_rfl, ?_⟩
            go_simp
            exact ⟨_, rfl, Fr.refl _ _, rfl, trivial⟩
          · have h7 : u 7 = _ := hR 7 (by kernel_rfl)
            clear hR k1 k0 kM
            simp only [h7]
            refine .inl ⟨by kernel_rfl, ?_⟩
            go_simp
            exact ⟨_, rfl, Fr.refl _ _, rfl, trivial⟩
          · have h8 : u 8 = _ := hR 8 (by kernel_rfl)
            clear hR k1 k0 kM
            simp only [h8]
            exact .inr ⟨by kernel_rfl, _, rfl, Fr.refl _ _, rfl, trivial⟩
          · have h8 : u 8 = _ := hR 8 (by kernel_rfl)
            clear hR k1 k0 kM
            simp only [h8]
            exact .inr ⟨by kernel_rfl, _, rfl, Fr.refl _ _, rfl, trivial⟩
          · have h8 : u 8 = _ := hR 8 (by kernel_rfl)
            clear hR k1 k0 kM
            simp only [h8]
            exact .inr ⟨by kernel_rfl, _, rfl, Fr.refl _ _, rfl, trivial⟩
          · have h8 : u 8 = _ := hR 8 (by kernel_rfl)
            have h11 : u 11 = _ := hR 11 (by kernel_rfl)
            clear hR k1 k0 kM
            simp only [h8, h11]
            refine .inl ⟨by kernel_rfl, ?_⟩
            go_simp
            exact ⟨_, rfl, Fr.refl _ _, rfl, trivial⟩
          · have h12 : u 12 = _ := hR 12 (by kernel_rfl)
            clear hR k1 k0 kM
            simp only [h12]
            refine .inl ⟨by kernel_rfl, ?_⟩
            go_simp
            exact ⟨_, rfl, Fr.refl _ _, rfl, trivial⟩
          · have h13 : u 13 = _ := hR 13 (by kernel_rfl)
            clear hR k1 k0 kM
            simp only [h13]
            exact .inr ⟨by kernel_rfl, _, rfl, Fr.refl _ _, rfl, trivial⟩
          · have h13 : u 13 = _ := hR 13 (by kernel_rfl)
            clear hR k1 k0 kM
            simp only [h13]
            exact .inr ⟨by kernel_rfl, _, rfl, Fr.refl _ _, rfl, trivial⟩
          · have h13 : u 13 = _ := hR 13 (by kernel_rfl)
            clear hR k1 k0 kM
            simp only [h13]
            exact .inr ⟨by kernel_rfl, _, rfl, Fr.refl _ _, rfl, trivial⟩
          · have h13 : u 13 = _ := hR 13 (by kernel_rfl)
            clear hR k1 k0 kM
            simp only [h13]
            exact .inr ⟨by kernel_rfl, _, rfl, Fr.refl _ _, rfl, trivial⟩
          · have h13 : u 13 = _ := hR 13 (by kernel_rfl)
            clear hR k1 k0 kM
            simp only [h13]
            exact .inr ⟨by kernel_rfl, _, rfl, Fr.refl _ _, rfl, trivial⟩
          · have h13 : u 13 = _ := hR 13 (by kernel_rfl)
            clear hR k1 k0 kM
            simp only [h13]
            exact .inr ⟨by kernel_rfl, _, rfl, Fr.refl _ _, rfl, trivial⟩
          · have h13 : u 13 = _ := hR 13 (by kernel_rfl)
            have h19 : u 19 = _ := hR 19 (by kernel_rfl)
            clear hR k1 k0 kM
            simp only [h13, h19]
            refine .inl ⟨by kernel_rfl, ?_⟩
            go_simp
            exact ⟨_, rfl, Fr.refl _ _, rfl, trivial⟩
          · have h20 : u 20 = _ := hR 20 (by kernel_rfl)
            clear hR k1 k0 kM
            simp only [h20]
            refine .inl ⟨by kernel_rfl, ?_⟩
            go_simp
            exact ⟨_, rfl, Fr.refl _ _, rfl, trivial⟩
        · intro u w' hf hR kM
          have k21 : u 21 = _ := hR 21 (by omega)
          clear hR kM
          simp only [List.take_succ_cons, List.take_zero, List.map_cons, List.map_nil, puts, Act.put, List.setIfInBounds_toArray, List.set_cons_zero, List.set_cons_succ, List.drop_succ_cons, List.drop_zero, Nat.reduceAdd, Nat.zero_add, k21]
          have FA := Lib.hid (F4.out.trans hf)
          have m4 := hf.cellSome n4.out (fun x => x)
          clear hf k21 n2 n3 n4
          go_wp2
          go_ret
          refine ⟨_, rfl, ?_, FA.out⟩
          rw [HOK.out]
          have hh : (decide (0 ≤ nu) && decide (nu ≤ 1073741824)) = false := by rw [decide_eq_false (show ¬ nu ≤ 1073741824 by have := U1.out; omega)]; simp
          rw [okUs]
          simp only [hh]
          simp
      have u1 : decide (1073741824 < nu) = false := decide_eq_false hn1
      have HNU : Hid ((decide (0 ≤ nu) && decide (nu ≤ 1073741824)) = true) := by simp only [Hid]; rw [decide_eq_true (show 0 ≤ nu by omega), decide_eq_true (show nu ≤ 1073741824 by omega)]; rfl
      clear hn0 hn1
      have v0 : decide (ix < 0) = false := decide_eq_false (by have := He_ix.out; omega)
      have v1 : decide (mo < ix) = false := decide_eq_false (by have := He_ix.out; omega)
      go_upto_region 8 with fail
      refine wp_region_st 22 Nothing [Is (.pointer (some ⟨gb, 2, none⟩)), Is (.int .i64 nu), Is (.bool false), Is (.bool false), Is (.pointer (some ⟨gb, 2, none⟩)), Is (.int .i64 nu), Is (.bool false), Is (.bool false), Is (.bool false), Is (.pointer (some ⟨gb, 3, none⟩)), Is (.int .i64 ix), Is (.bool false), Is (.bool false), Is (.bool false), Is (.pointer (some ⟨gb, 3, none⟩)), Is (.int .i64 ix), Is (.int .i64 (k : Int)), Is (.int .i64 mq), Is (.int .i64 mo), Is (.bool false), Is (.bool false), Is (.bool false)] [] (fun _ => True) (fun _ _ => false) (by kernel_rfl) (by kernel_rfl) (by kernel_rfl) (by kernel_rfl) ⟨Is.stable _, Is.stable _, Is.stable _, Is.stable _, Is.stable _, Is.stable _, Is.stable _, Is.stable _, Is.stable _, Is.stable _, Is.stable _, Is.stable _, Is.stable _, Is.stable _, Is.stable _, Is.stable _, Is.stable _, Is.stable _, Is.stable _, Is.stable _, Is.stable _, Is.stable _, trivial⟩ trivial (fun _ _ _ _ h => h) trivial ?_ ?_
      · refine ⟨fun u w' d hf hR k1 k0 kM => ?_, fun u w' d hf hR k1 k0 kM => ?_, fun u w' d hf hR k1 k0 kM => ?_, fun u w' d hf hR k1 k0 kM => ?_, fun u w' d hf hR k1 k0 kM => ?_, fun u w' d hf hR k1 k0 kM => ?_, fun u w' d hf hR k1 k0 kM => ?_, fun u w' d hf hR k1 k0 kM => ?_, fun u w' d hf hR k1 k0 kM => ?_, fun u w' d hf hR k1 k0 kM => ?_, fun u w' d hf hR k1 k0 kM => ?_, fun u w' d hf hR k1 k0 kM => ?_, fun u w' d hf hR k1 k0 kM => ?_, fun u w' d hf hR k1 k0 kM => ?_, fun u w' d hf hR k1 k0 kM => ?_, fun u w' d hf hR k1 k0 kM => ?_, fun u w' d hf hR k1 k0 kM => ?_, fun u w' d hf hR k1 k0 kM => ?_, fun u w' d hf hR k1 k0 kM => ?_, fun u w' d hf hR k1 k0 kM => ?_, fun u w' d hf hR k1 k0 kM => ?_, fun u w' d hf hR k1 k0 kM => ?_, trivial⟩
        all_goals simp only [List.take_succ_cons, List.take_zero, List.map_cons, List.map_nil, puts, Act.put, List.setIfInBounds_toArray, List.set_cons_zero, List.set_cons_succ, Nat.reduceAdd, Nat.zero_add]
        · clear hR k1 k0 kM
          refine .inl ⟨by kernel_rfl, ?_⟩
          go_simp
          exact ⟨_, rfl, Fr.refl _ _, rfl, trivial⟩
        · have h0 : u 0 = _ := hR 0 (by kernel_rfl)
          clear hR k1 k0 kM
          simp only [h0]
          refine .inl ⟨by kernel_rfl, ?_⟩
          have q := hf.cellSome (n2.out) (fun x => x)
          go_simp
          exact ⟨_, rfl, Fr.refl _ _, rfl, trivial⟩
        · have h1 : u 1 = _ := hR 1 (by kernel_rfl)
          clear hR k1 k0 kM
          simp only [h1]
          refine .inl ⟨by kernel_rfl, ?_⟩
          go_simp
          exact ⟨_, rfl, Fr.refl _ _, rfl, trivial⟩
        · have h2 : u 2 = _ := hR 2 (by kernel_rfl)
          clear hR k1 k0 kM
          simp only [h2]
          refine .inl ⟨by kernel_rfl, ?_⟩
          go_simp
          exact ⟨_, rfl, Fr.refl _ _, rfl, trivial⟩
        · have h3 : u 3 = _ := hR 3 (by kernel_rfl)
          clear hR k1 k0 kM
          simp only [h3]
          refine .inl ⟨by kernel_rfl, ?_⟩
          go_simp
          exact ⟨_, rfl, Fr.refl _ _, rfl, trivial⟩
        · have h4 : u 4 = _ := hR 4 (by kernel_rfl)
          have h3 : u 3 = _ := hR 3 (by kernel_rfl)
          clear hR k1 k0 kM
          simp only [h4, h3]
          refine .inl ⟨by kernel_rfl, ?_⟩
          have q := hf.cellSome (n2.out) (fun x => x)
          go_simp
          exact ⟨_, rfl, Fr.refl _ _, rfl, trivial⟩
        · have h5 : u 5 = _ := hR 5 (by kernel_rfl)
          have h3 : u 3 = _ := hR 3 (by kernel_rfl)
          clear hR k1 k0 kM
          simp only [h5, h3]
          refine .inl ⟨by kernel_rfl, ?_⟩
          go_simp
          exact ⟨_, rfl, Fr.refl _ _, rfl, trivial⟩
        · have h3 : u 3 = _ := hR 3 (by kernel_rfl)
          have h6 : u 6 = _ := hR 6 (by kernel_rfl)
          clear hR k1 k0 kM
          simp only [h3, h6]
          refine .inl ⟨by kernel_rfl, ?_⟩
          go_simp
          exact ⟨_, rfl, Fr.refl _ _, rfl, trivial⟩
        · have h7 : u 7 = _ := hR 7 (by kernel_rfl)
          clear hR k1 k0 kM
          simp only [h7]
          refine .inl ⟨by kernel_rfl, ?_⟩
          go_simp
          exact ⟨_, rfl, Fr.refl _ _, rfl, trivial⟩
        · have h8 : u 8 = _ := hR 8 (by kernel_rfl)
          clear hR k1 k0 kM
          simp only [h8]
          refine .inl ⟨by kernel_rfl, ?_⟩
          go_simp
          exact ⟨_, rfl, Fr.refl _ _, rfl, trivial⟩
        · have h9 : u 9 = _ := hR 9 (by kernel_rfl)
          have h8 : u 8 = _ := hR 8 (by kernel_rfl)
          clear hR k1 k0 kM
          simp only [h9, h8]
          refine .inl ⟨by kernel_rfl, ?_⟩
          have q := hf.cellSome (n3.out) (fun x => x)
          go_simp
          exact ⟨_, rfl, Fr.refl _ _, rfl, trivial⟩
        · have h10 : u 10 = _ := hR 10 (by kernel_rfl)
          have h8 : u 8 = _ := hR 8 (by kernel_rfl)
          clear hR k1 k0 kM
          simp only [h10, h8]
          refine .inl ⟨by kernel_rfl, ?_⟩
          go_simp
          exact ⟨_, rfl, Fr.refl _ _, rfl, trivial⟩
        · have h8 : u 8 = _ := hR 8 (by kernel_rfl)
          have h11 : u 11 = _ := hR 11 (by kernel_rfl)
          clear hR k1 k0 kM
          simp only [h8, h11]
          refine .inl ⟨by kernel_rfl, ?_⟩
          go_simp
          exact ⟨_, rfl, Fr.refl _ _, rfl, trivial⟩
        · have h12 : u 12 = _ := hR 12 (by kernel_rfl)
          clear hR k1 k0 kM
          simp only [h12]
          refine .inl ⟨by kernel_rfl, ?_⟩
          go_simp
          exact ⟨_, rfl, Fr.refl _ _, rfl, trivial⟩
        · have h13 : u 13 = _ := hR 13 (by kernel_rfl)
          clear hR k1 k0 kM
          simp only [h13]
          refine .inl ⟨by kernel_rfl, ?_⟩
          go_simp
          exact ⟨_, rfl, Fr.refl _ _, rfl, trivial⟩
        · have h14 : u 14 = _ := hR 14 (by kernel_rfl)
          have h13 : u 13 = _ := hR 13 (by kernel_rfl)
          clear hR k1 k0 kM
          simp only [h14, h13]
          refine .inl ⟨by kernel_rfl, ?_⟩
          have q := hf.cellSome (n3.out) (fun x => x)
          go_simp
          exact ⟨_, rfl, Fr.refl _ _, rfl, trivial⟩
        · have h13 : u 13 = _ := hR 13 (by kernel_rfl)
          clear hR k1 k0 kM
          simp only [h13]
          refine .inl ⟨by kernel_rfl, ?_⟩
          go_simp
          exact ⟨_, rfl, Fr.refl _ _, rfl, trivial⟩
        · have h16 : u 16 = _ := hR 16 (by kernel_rfl)
          have h13 : u 13 = _ := hR 13 (by kernel_rfl)
          clear hR k1 k0 kM
          simp only [h16, h13]
          refine .inl ⟨by kernel_rfl, ?_⟩
          go_simp
          refine (CM.out _).mono ?_
          rintro e w9 ⟨rfl, rfl⟩
          exact ⟨_, rfl, Fr.refl _ _, rfl, trivial⟩
        · have h17 : u 17 = _ := hR 17 (by kernel_rfl)
          have h13 : u 13 = _ := hR 13 (by kernel_rfl)
          clear hR k1 k0 kM
          simp only [h17, h13]
          refine .inl ⟨by kernel_rfl, ?_⟩
          have q := HMX.out
          go_simp
          exact ⟨_, rfl, Fr.refl _ _, rfl, trivial⟩
        · have h15 : u 15 = _ := hR 15 (by kernel_rfl)
          have h18 : u 18 = _ := hR 18 (by kernel_rfl)
          have h13 : u 13 = _ := hR 13 (by kernel_rfl)
          clear hR k1 k0 kM
          simp only [h15, h18, h13]
          refine .inl ⟨by kernel_rfl, ?_⟩
          go_simp
          exact ⟨_, rfl, Fr.refl _ _, rfl, trivial⟩
        · have h13 : u 13 = _ := hR 13 (by kernel_rfl)
          have h19 : u 19 = _ := hR 19 (by kernel_rfl)
          clear hR k1 k0 kM
          simp only [h13, h19]
          refine .inl ⟨by kernel_rfl, ?_⟩
          go_simp
          exact ⟨_, rfl, Fr.refl _ _, rfl, trivial⟩
        · have h20 : u 20 = _ := hR 20 (by kernel_rfl)
          clear hR k1 k0 kM
          simp only [h20]
          refine .inl ⟨by kernel_rfl, ?_⟩
          go_simp
          exact ⟨_, rfl, Fr.refl _ _, rfl, trivial⟩
      · intro u w' hf hR kM
        have k21 : u 21 = _ := hR 21 (by omega)
        clear hR kM
        simp only [List.take_succ_cons, List.take_zero, List.map_cons, List.map_nil, puts, Act.put, List.setIfInBounds_toArray, List.set_cons_zero, List.set_cons_succ, List.drop_succ_cons, List.drop_zero, Nat.reduceAdd, Nat.zero_add, k21]
        have FA := Lib.hid (F4.out.trans hf)
        have m4 := hf.cellSome n4.out (fun x => x)
        clear hf k21 n2 n3 n4
        go_wp2_with fail
        refine (CT.out _).mono ?_
        rintro e w9 ⟨rfl, rfl⟩
        have K2 := Lib.hid (fun w => rWord_any tx w HTX.out)
        obtain ⟨v2, hv2⟩ : ∃ v2, wordO tx = v2 := ⟨_, rfl⟩
        have Hv2 := Lib.hid hv2
        rw [hv2] at K2
        clear hv2
        go_wp2_with fail
        refine (K2.out _).mono ?_
        rintro e w9 ⟨rfl, rfl⟩
        cases v2
        · go_wp2
          go_ret
          refine ⟨_, rfl, ?_, FA.out⟩
          rw [HOK.out]
          have hh := Hv2.out
          simp [okUs, hh]
        · go_wp2
          go_ret
          refine ⟨_, rfl, ?_, FA.out⟩
          rw [HOK.out]
          rw [okUs]
          simp only [He_ix.out, Hv1.out, HNU.out, Hv2.out]
          simp
  · have He_ix := Lib.hid e_ix
    have t_e_ix := bne0 e_ix
    clear e_ix
    go_wp2
    go_ret
    refine ⟨_, rfl, ?_, F1.out⟩
    rw [HOK.out]
    simp [okUs, He_ix.out]
set_option maxRecDepth 100000 in
set_option maxHeartbeats 8000000 in
theorem rCheck_0100 (k : Nat) (ow : ByteArray) (nu ix : Int) (tx wd : ByteArray) (mo : Int) (w : World) (hk : 1 ≤ k ∧ k ≤ 20) (hu : usaL[k]? = some ⟨wd, false, true, false, false, mo⟩) (ho : ow.size ≤ 1099511627776) (ht : tx.size ≤ 1099511627776) (_hmo : 0 ≤ mo) (hmo0 : mo = 0) :
    Calls Tryd.prog 80 #[.agg #[.int .i64 (k : Int), .string ow, .int .i64 nu, .int .i64 ix, .string tx]] w (Checked w ⟨(k : Int), ow, nu, ix, tx⟩) := by
  have HOK : Hid (okNm ⟨(k : Int), ow, nu, ix, tx⟩ = okUs ⟨wd, false, true, false, false, mo⟩ ⟨(k : Int), ow, nu, ix, tx⟩) := by
    simp only [Hid, okNm, Int.toNat_natCast, hu]
    rw [decide_eq_true (show (1 : Int) ≤ (k : Int) by omega), decide_eq_true (show (k : Int) ≤ 20 by omega)]
    rfl
  have HOW := Lib.hid ho
  have HTX := Lib.hid ht
  have CO : Hid (∀ w, Calls Tryd.prog 97 #[.int .i64 (k : Int)] w (SameW w (.bool false))) := fun w => rOwned_any k _ w hk hu
  have CN : Hid (∀ w, Calls Tryd.prog 99 #[.int .i64 (k : Int)] w (SameW w (.bool true))) := fun w => rNumbered_any k _ w hk hu
  have CT : Hid (∀ w, Calls Tryd.prog 101 #[.int .i64 (k : Int)] w (SameW w (.bool false))) := fun w => rTexted_any k _ w hk hu
  obtain ⟨mq, hmq⟩ : ∃ mq : Int, mq = (if false = true then mo else -1) := ⟨_, rfl⟩
  have CM : Hid (∀ w, Calls Tryd.prog 100 #[.int .i64 (k : Int)] w (SameW w (.int .i64 mq))) := fun w => by rw [hmq]; exact rMost_any k _ w hk hu
  have hmq2 : mq = -1 := by rw [hmq]; simp
  have tq : decide (mq < 0) = true := decide_eq_true (by omega)
  have HMX : Hid (max mq 0 = mo) := by simp only [Hid]; omega
  have k1 : decide ((k : Int) < 1) = false := decide_eq_false (by omega)
  have k1' : ¬ (k : Int) < 1 := by omega
  have k2 : decide ((20 : Int) < (k : Int)) = false := decide_eq_false (by omega)
  have k2' : ¬ (20 : Int) < (k : Int) := by omega
  clear hk hu ho ht hmq hmq2
  go_enter Tryd.func80, Tryd.ntmps80
  go_wp2_with (refine wpList_boxBlk rfl 40 (.tmp 0) rfl #[.int .i64 (k : Int), .string ow, .int .i64 nu, .int .i64 ix, .string tx] rfl ?_)
  intro w1 n1
  have F1 := Lib.hid n1.fr
  have NB := Lib.hid n1.blk
  have c0 : w1.cell? ⟨w.heap.size, 0, none⟩ = some (.int .i64 (k : Int)) := n1.blk.cell 0
  have c1 : w1.cell? ⟨w.heap.size, 1, none⟩ = some (.string ow) := n1.blk.cell 1
  have c2 : w1.cell? ⟨w.heap.size, 2, none⟩ = some (.int .i64 nu) := n1.blk.cell 2
  have c3 : w1.cell? ⟨w.heap.size, 3, none⟩ = some (.int .i64 ix) := n1.blk.cell 3
  have c4 : w1.cell? ⟨w.heap.size, 4, none⟩ = some (.string tx) := n1.blk.cell 4
  clear n1
  generalize w.heap.size = gb at *
  go_wp2_with fail
  refine (CO.out _).mono ?_
  rintro e w9 ⟨rfl, rfl⟩
  cases e_ow : ow.toList.isEmpty
  · have He_ow := Lib.hid e_ow
    go_wp2
    go_ret
    refine ⟨_, rfl, ?_, F1.out⟩
    rw [HOK.out]
    simp [okUs, He_ow.out]
  · have He_ow := Lib.hid e_ow
    go_wp2_with fail
    refine (CN.out _).mono ?_
    rintro e w9 ⟨rfl, rfl⟩
    go_wp2_with fail
    refine (CM.out _).mono ?_
    rintro e w9 ⟨rfl, rfl⟩
    by_cases e_ix : ix = 0
    · have He_ix := Lib.hid e_ix
      have t_e_ix := beq0 e_ix
      clear e_ix
      go_wp2_with fail
      refine (CT.out _).mono ?_
      rintro e w9 ⟨rfl, rfl⟩
      cases e_tx : tx.toList.isEmpty
      · have He_tx := Lib.hid e_tx
        go_wp2
        go_ret
        refine ⟨_, rfl, ?_, F1.out⟩
        rw [HOK.out]
        simp [okUs, He_tx.out]
      · have He_tx := Lib.hid e_tx
        go_wp2_with fail
        refine (CO.out _).mono ?_
        rintro e w9 ⟨rfl, rfl⟩
        have n2 := Lib.hid c2
        have n3 := Lib.hid c3
        have n4 := Lib.hid c4
        clear c0 c1 c2 c3 c4
        by_cases hn0 : nu < 0
        · have u0 : decide (nu < 0) = true := decide_eq_true hn0
          have U0 := Lib.hid hn0
          clear hn0
          go_upto_region 8 with fail
          refine wp_region_st 22 Nothing [Is (.pointer (some ⟨gb, 2, none⟩)), Is (.int .i64 nu), Is (.bool true), Is (.bool true), Is (undef), Is (undef), Is (undef), Is (.bool true), Is (.bool true), Is (undef), Is (undef), Is (undef), Is (.bool true), Is (.bool true), Is (undef), Is (undef), Is (undef), Is (undef), Is (undef), Is (undef), Is (.bool true), Is (.bool true)] [] (fun _ => True) (fun _ _ => false) (by kernel_rfl) (by kernel_rfl) (by kernel_rfl) (by kernel_rfl) ⟨Is.stable _, Is.stable _, Is.stable _, Is.stable _, Is.stable _, Is.stable _, Is.stable _, Is.stable _, Is.stable _, Is.stable _, Is.stable _, Is.stable _, Is.stable _, Is.stable _, Is.stable _, Is.stable _, Is.stable _, Is.stable _, Is.stable _, Is.stable _, Is.stable _, Is.stable _, trivial⟩ trivial (fun _ _ _ _ h => h) trivial ?_ ?_
          · refine ⟨fun u w' d hf hR k1 k0 kM => ?_, fun u w' d hf hR k1 k0 kM => ?_, fun u w' d hf hR k1 k0 kM => ?_, fun u w' d hf hR k1 k0 kM => ?_, fun u w' d hf hR k1 k0 kM => ?_, fun u w' d hf hR k1 k0 kM => ?_, fun u w' d hf hR k1 k0 kM => ?_, fun u w' d hf hR k1 k0 kM => ?_, fun u w' d hf hR k1 k0 kM => ?_, fun u w' d hf hR k1 k0 kM => ?_, fun u w' d hf hR k1 k0 kM => ?_, fun u w' d hf hR k1 k0 kM => ?_, fun u w' d hf hR k1 k0 kM => ?_, fun u w' d hf hR k1 k0 kM => ?_, fun u w' d hf hR k1 k0 kM => ?_, fun u w' d hf hR k1 k0 kM => ?_, fun u w' d hf hR k1 k0 kM => ?_, fun u w' d hf hR k1 k0 kM => ?_, fun u w' d hf hR k1 k0 kM => ?_, fun u w' d hf hR k1 k0 kM => ?_, fun u w' d hf hR k1 k0 kM => ?_, fun u w' d hf hR k1 k0 kM => ?_, trivial⟩
            all_goals simp only [List.take_succ_cons, List.take_zero, List.map_cons, List.map_nil, puts, Act.put, List.setIfInBounds_toArray, List.set_cons_zero, List.set_cons_succ, Nat.reduceAdd, Nat.zero_add]
            · clear hR k1 k0 kM
              refine .inl ⟨by kernel_rfl, ?_⟩
              go_simp
              exact ⟨_, rfl, Fr.refl _ _, rfl, trivial⟩
            · have h0 : u 0 = _ := hR 0 (by kernel_rfl)
              clear hR k1 k0 kM
              simp only [h0]
              refine .inl ⟨by kernel_rfl, ?_⟩
              have q := hf.cellSome (n2.out) (fun x => x)
              go_simp
              exact ⟨_, rfl, Fr.refl _ _, rfl, trivial⟩
            · have h1 : u 1 = _ := hR 1 (by kernel_rfl)
              clear hR k1 k0 kM
              simp only [h1]
              refine .inl ⟨by kernel_rfl, ?_⟩
              go_simp
              exact ⟨_, rfl, Fr.refl _ _, rfl, trivial⟩
            · have h2 : u 2 = _ := hR 2 (by kernel_rfl)
              clear hR k1 k0 kM
              simp only [h2]
              refine .inl ⟨by kernel_rfl, ?_⟩
              go_simp
              exact ⟨_, rfl, Fr.refl _ _, rfl, trivial⟩
            · have h3 : u 3 = _ := hR 3 (by kernel_rfl)
              clear hR k1 k0 kM
              simp only [h3]
              exact .inr ⟨by kernel_rfl, _, rfl, Fr.refl _ _, rfl, trivial⟩
            · have h3 : u 3 = _ := hR 3 (by kernel_rfl)
              clear hR k1 k0 kM
              simp only [h3]
              exact .inr ⟨by kernel_rfl, _, rfl, Fr.refl _ _, rfl, trivial⟩
            · have h3 : u 3 = _ := hR 3 (by kernel_rfl)
              clear hR k1 k0 kM
              simp only [h3]
              exact .inr ⟨by kernel_rfl, _, rfl, Fr.refl _ _, rfl, trivial⟩
            · have h3 : u 3 = _ := hR 3 (by kernel_rfl)
              have h6 : u 6 = _ := hR 6 (by kernel_rfl)
              clear hR k1 k0 kM
              simp only [h3, h6]
              refine .inl ⟨by kernel_rfl, ?_⟩
              go_simp
              exact ⟨_, rfl, Fr.refl _ _, rfl, trivial⟩
            · have h7 : u 7 = _ := hR 7 (by kernel_rfl)
              clear hR k1 k0 kM
              simp only [h7]
              refine .inl ⟨by kernel_rfl, ?_⟩
              go_simp
              exact ⟨_, rfl, Fr.refl _ _, rfl, trivial⟩
            · have h8 : u 8 = _ := hR 8 (by kernel_rfl)
              clear hR k1 k0 kM
              simp only [h8]
              exact .inr ⟨by kernel_rfl, _, rfl, Fr.refl _ _, rfl, trivial⟩
            · have h8 : u 8 = _ := hR 8 (by kernel_rfl)
              clear hR k1 k0 kM
              simp only [h8]
              exact .inr ⟨by kernel_rfl, _, rfl, Fr.refl _ _, rfl, trivial⟩
            · have h8 : u 8 = _ := hR 8 (by kernel_rfl)
              clear hR k1 k0 kM
              simp only [h8]
              exact .inr ⟨by kernel_rfl, _, rfl, Fr.refl _ _, rfl, trivial⟩
            · have h8 : u 8 = _ := hR 8 (by kernel_rfl)
              have h11 : u 11 = _ := hR 11 (by kernel_rfl)
              clear hR k1 k0 kM
              simp only [h8, h11]
              refine .inl ⟨by kernel_rfl, ?_⟩
              go_simp
              exact ⟨_, rfl, Fr.refl _ _, rfl, trivial⟩
            · have h12 : u 12 = _ := hR 12 (by kernel_rfl)
              clear hR k1 k0 kM
              simp only [h12]
              refine .inl ⟨by kernel_rfl, ?_⟩
              go_simp
              exact ⟨_, rfl, Fr.refl _ _, rfl, trivial⟩
            · have h13 : u 13 = _ := hR 13 (by kernel_rfl)
              clear hR k1 k0 kM
              simp only [h13]
              exact .inr ⟨by kernel_rfl, _, rfl, Fr.refl _ _, rfl, trivial⟩
            · have h13 : u 13 = _ := hR 13 (by kernel_rfl)
              clear hR k1 k0 kM
              simp only [h13]
              exact .inr ⟨by kernel_rfl, _, rfl, Fr.refl _ _, rfl, trivial⟩
            · have h13 : u 13 = _ := hR 13 (by kernel_rfl)
              clear hR k1 k0 kM
              simp only [h13]
              exact .inr ⟨by kernel_rfl, _, rfl, Fr.refl _ _, rfl, trivial⟩
            · have h13 : u 13 = _ := hR 13 (by kernel_rfl)
              clear hR k1 k0 kM
              simp only [h13]
              exact .inr ⟨by kernel_rfl, _, rfl, Fr.refl _ _, rfl, trivial⟩
            · have h13 : u 13 = _ := hR 13 (by kernel_rfl)
              clear hR k1 k0 kM
              simp only [h13]
              exact .inr ⟨by kernel_rfl, _, rfl, Fr.refl _ _, rfl, trivial⟩
            · have h13 : u 13 = _ := hR 13 (by kernel_rfl)
              clear hR k1 k0 kM
              simp only [h13]
              exact .inr ⟨by kernel_rfl, _, rfl, Fr.refl _ _, rfl, trivial⟩
            · have h13 : u 13 = _ := hR 13 (by kernel_rfl)
              have h19 : u 19 = _ := hR 19 (by kernel_rfl)
              clear hR k1 k0 kM
              simp only [h13, h19]
              refine .inl ⟨by kernel_rfl, ?_⟩
              go_simp
              exact ⟨_, rfl, Fr.refl _ _, rfl, trivial⟩
            · have h20 : u 20 = _ := hR 20 (by kernel_rfl)
              clear hR k1 k0 kM
              simp only [h20]
              refine .inl ⟨by kernel_rfl, ?_⟩
              go_simp
              exact ⟨_, rfl, Fr.refl _ _, rfl, trivial⟩
          · intro u w' hf hR kM
            have k21 : u 21 = _ := hR 21 (by omega)
            clear hR kM
            simp only [List.take_succ_cons, List.take_zero, List.map_cons, List.map_nil, puts, Act.put, List.setIfInBounds_toArray, List.set_cons_zero, List.set_cons_succ, List.drop_succ_cons, List.drop_zero, Nat.reduceAdd, Nat.zero_add, k21]
            have FA := Lib.hid (F1.out.trans hf)
            have m4 := hf.cellSome n4.out (fun x => x)
            clear hf k21 n2 n3 n4
            go_wp2
            go_ret
            refine ⟨_, rfl, ?_, FA.out⟩
            rw [HOK.out]
            have hh : (decide (0 ≤ nu) && decide (nu ≤ 1073741824)) = false := by rw [decide_eq_false (by have := U0.out; omega)]; rfl
            rw [okUs]
            simp only [hh]
            simp
        have u0 : decide (nu < 0) = false := decide_eq_false hn0
        by_cases hn1 : 1073741824 < nu
        · have u1 : decide (1073741824 < nu) = true := decide_eq_true hn1
          have U1 := Lib.hid hn1
          clear hn0 hn1
          go_upto_region 8 with fail
          refine wp_region_st 22 Nothing [Is (.pointer (some ⟨gb, 2, none⟩)), Is (.int .i64 nu), Is (.bool false), Is (.bool false), Is (.pointer (some ⟨gb, 2, none⟩)), Is (.int .i64 nu), Is (.bool true), Is (.bool true), Is (.bool true), Is (undef), Is (undef), Is (undef), Is (.bool true), Is (.bool true), Is (undef), Is (undef), Is (undef), Is (undef), Is (undef), Is (undef), Is (.bool true), Is (.bool true)] [] (fun _ => True) (fun _ _ => false) (by kernel_rfl) (by kernel_rfl) (by kernel_rfl) (by kernel_rfl) ⟨Is.stable _, Is.stable _, Is.stable _, Is.stable _, Is.stable _, Is.stable _, Is.stable _, Is.stable _, Is.stable _, Is.stable _, Is.stable _, Is.stable _, Is.stable _, Is.stable _, Is.stable _, Is.stable _, Is.stable _, Is.stable _, Is.stable _, Is.stable _, Is.stable _, Is.stable _, trivial⟩ trivial (fun _ _ _ _ h => h) trivial ?_ ?_
          · refine ⟨fun u w' d hf hR k1 k0 kM => ?_, fun u w' d hf hR k1 k0 kM => ?_, fun u w' d hf hR k1 k0 kM => ?_, fun u w' d hf hR k1 k0 kM => ?_, fun u w' d hf hR k1 k0 kM => ?_, fun u w' d hf hR k1 k0 kM => ?_, fun u w' d hf hR k1 k0 kM => ?_, fun u w' d hf hR k1 k0 kM => ?_, fun u w' d hf hR k1 k0 kM => ?_, fun u w' d hf hR k1 k0 kM => ?_, fun u w' d hf hR k1 k0 kM => ?_, fun u w' d hf hR k1 k0 kM => ?_, fun u w' d hf hR k1 k0 kM => ?_, fun u w' d hf hR k1 k0 kM => ?_, fun u w' d hf hR k1 k0 kM => ?_, fun u w' d hf hR k1 k0 kM => ?_, fun u w' d hf hR k1 k0 kM => ?_, fun u w' d hf hR k1 k0 kM => ?_, fun u w' d hf hR k1 k0 kM => ?_, fun u w' d hf hR k1 k0 kM => ?_, fun u w' d hf hR k1 k0 kM => ?_, fun u w' d hf hR k1 k0 kM => ?_, trivial⟩
            all_goals simp only [List.take_succ_cons, List.take_zero, List.map_cons, List.map_nil, puts, Act.put, List.setIfInBounds_toArray, List.set_cons_zero, List.set_cons_succ, Nat.reduceAdd, Nat.zero_add]
            · clear hR k1 k0 kM
              refine .inl ⟨by kernel_rfl, ?_⟩
              go_simp
              exact ⟨_, rfl, Fr.refl _ _, rfl, trivial⟩
            · have h0 : u 0 = _ := hR 0 (by kernel_rfl)
              clear hR k1 k0 kM
              simp only [h0]
              refine .inl ⟨by kernel_rfl, ?_⟩
              have q := hf.cellSome (n2.out) (fun x => x)
              go_simp
              exact ⟨_, rfl, Fr.refl _ _, rfl, trivial⟩
            · have h1 : u 1 = _ := hR 1 (by kernel_rfl)
              clear hR k1 k0 kM
              simp only [h1]
              refine .inl ⟨by kernel_rfl, ?_⟩
              go_simp
              exact ⟨_, rfl, Fr.refl _ _, rfl, trivial⟩
            · have h2 : u 2 = _ := hR 2 (by kernel_rfl)
              clear hR k1 k0 kM
              simp only [h2]
              refine .inl ⟨by kernel_rfl, ?_⟩
              go_simp
              exact ⟨_, rfl, Fr.refl _ _, rfl, trivial⟩
            · have h3 : u 3 = _ := hR 3 (by kernel_rfl)
              clear hR k1 k0 kM
              simp only [h3]
              refine .inl ⟨by kernel_rfl, ?_⟩
              go_simp
              exact ⟨_, rfl, Fr.refl _ _, rfl, trivial⟩
            · have h4 : u 4 = _ := hR 4 (by kernel_rfl)
              have h3 : u 3 = _ := hR 3 (by kernel_rfl)
              clear hR k1 k0 kM
              simp only [h4, h3]
              refine .inl ⟨by kernel_rfl, ?_⟩
              have q := hf.cellSome (n2.out) (fun x => x)
              go_simp
              exact ⟨_, rfl, Fr.refl _ _, rfl, trivial⟩
            · have h5 : u 5 = _ := hR 5 (by kernel_rfl)
              have h3 : u 3 = _ := hR 3 (by kernel_rfl)
              clear hR k1 k0 kM
              simp only [h5, h3]
              refine .inl ⟨by kernel_rfl, ?_⟩
              go_simp
              exact ⟨_, rfl, Fr.refl _ _, rfl, trivial⟩
            · have h3 : u 3 = _ := hR 3 (by kernel_rfl)
              have h6 : u 6 = _ := hR 6 (by kernel_rfl)
              clear hR k1 k0 kM
              simp only [h3, h6]
              refine .inl ⟨by kernel_rfl, ?_⟩
              go_simp
              exact ⟨_, rfl, Fr.refl _ _, rfl, trivial⟩
            · have h7 : u 7 = _ := hR 7 (by kernel_rfl)
              clear hR k1 k0 kM
              simp only [h7]
              refine .inl ⟨by kernel_rfl, ?_⟩
              go_simp
              exact ⟨_, rfl, Fr.refl _ _, rfl, trivial⟩
            · have h8 : u 8 = _ := hR 8 (by kernel_rfl)
              clear hR k1 k0 kM
              simp only [h8]
              exact .inr ⟨by kernel_rfl, _, rfl, Fr.refl _ _, rfl, trivial⟩
            · have h8 : u 8 = _ := hR 8 (by kernel_rfl)
              clear hR k1 k0 kM
              simp only [h8]
              exact .inr ⟨by kernel_rfl, _, rfl, Fr.refl _ _, rfl, trivial⟩
            · have h8 : u 8 = _ := hR 8 (by kernel_rfl)
              clear hR k1 k0 kM
              simp only [h8]
              exact .inr ⟨by kernel_rfl, _, rfl, Fr.refl _ _, rfl, trivial⟩
            · have h8 : u 8 = _ := hR 8 (by kernel_rfl)
              have h11 : u 11 = _ := hR 11 (by kernel_rfl)
              clear hR k1 k0 kM
              simp only [h8, h11]
              refine .inl ⟨by kernel_rfl, ?_⟩
              go_simp
              exact ⟨_, rfl, Fr.refl _ _, rfl, trivial⟩
            · have h12 : u 12 = _ := hR 12 (by kernel_rfl)
              clear hR k1 k0 kM
              simp only [h12]
              refine .inl ⟨by kernel_rfl, ?_⟩
              go_simp
              exact ⟨_, rfl, Fr.refl _ _, rfl, trivial⟩
            · have h13 : u 13 = _ := hR 13 (by kernel_rfl)
              clear hR k1 k0 kM
              simp only [h13]
              exact .inr ⟨by kernel_rfl, _, rfl, Fr.refl _ _, rfl, trivial⟩
            · have h13 : u 13 = _ := hR 13 (by kernel_rfl)
              clear hR k1 k0 kM
              simp only [h13]
              exact .inr ⟨by kernel_rfl, _, rfl, Fr.refl _ _, rfl, trivial⟩
            · have h13 : u 13 = _ := hR 13 (by kernel_rfl)
              clear hR k1 k0 kM
              simp only [h13]
              exact .inr ⟨by kernel_rfl, _, rfl, Fr.refl _ _, rfl, trivial⟩
            · have h13 : u 13 = _ := hR 13 (by kernel_rfl)
              clear hR k1 k0 kM
              simp only [h13]
              exact .inr ⟨by kernel_rfl, _, rfl, Fr.refl _ _, rfl, trivial⟩
            · have h13 : u 13 = _ := hR 13 (by kernel_rfl)
              clear hR k1 k0 kM
              simp only [h13]
              exact .inr ⟨by kernel_rfl, _, rfl, Fr.refl _ _, rfl, trivial⟩
            · have h13 : u 13 = _ := hR 13 (by kernel_rfl)
              clear hR k1 k0 kM
              simp only [h13]
              exact .inr ⟨by kernel_rfl, _, rfl, Fr.refl _ _, rfl, trivial⟩
            · have h13 : u 13 = _ := hR 13 (by kernel_rfl)
              have h19 : u 19 = _ := hR 19 (by kernel_rfl)
              clear hR k1 k0 kM
              simp only [h13, h19]
              refine .inl ⟨by kernel_rfl, ?_⟩
              go_simp
              exact ⟨_, rfl, Fr.refl _ _, rfl, trivial⟩
            · have h20 : u 20 = _ := hR 20 (by kernel_rfl)
              clear hR k1 k0 kM
              simp only [h20]
              refine .inl ⟨by kernel_rfl, ?_⟩
              go_simp
              exact ⟨_, rfl, Fr.refl _ _, rfl, trivial⟩
          · intro u w' hf hR kM
            have k21 : u 21 = _ := hR 21 (by omega)
            clear hR kM
            simp only [List.take_succ_cons, List.take_zero, List.map_cons, List.map_nil, puts, Act.put, List.setIfInBounds_toArray, List.set_cons_zero, List.set_cons_succ, List.drop_succ_cons, List.drop_zero, Nat.reduceAdd, Nat.zero_add, k21]
            have FA := Lib.hid (F1.out.trans hf)
            have m4 := hf.cellSome n4.out (fun x => x)
            clear hf k21 n2 n3 n4
            go_wp2
            go_ret
            refine ⟨_, rfl, ?_, FA.out⟩
            rw [HOK.out]
            have hh : (decide (0 ≤ nu) && decide (nu ≤ 1073741824)) = false := by rw [decide_eq_false (show ¬ nu ≤ 1073741824 by have := U1.out; omega)]; simp
            rw [okUs]
            simp only [hh]
            simp
        have u1 : decide (1073741824 < nu) = false := decide_eq_false hn1
        have HNU : Hid ((decide (0 ≤ nu) && decide (nu ≤ 1073741824)) = true) := by simp only [Hid]; rw [decide_eq_true (show 0 ≤ nu by omega), decide_eq_true (show nu ≤ 1073741824 by omega)]; rfl
        clear hn0 hn1
        have v0 : decide (ix < 0) = false := decide_eq_false (by have := He_ix.out; omega)
        have v1 : decide (mo < ix) = false := decide_eq_false (by have := He_ix.out; omega)
        go_upto_region 8 with fail
        refine wp_region_st 22 Nothing [Is (.pointer (some ⟨gb, 2, none⟩)), Is (.int .i64 nu), Is (.bool false), Is (.bool false), Is (.pointer (some ⟨gb, 2, none⟩)), Is (.int .i64 nu), Is (.bool false), Is (.bool false), Is (.bool false), Is (.pointer (some ⟨gb, 3, none⟩)), Is (.int .i64 ix), Is (.bool false), Is (.bool false), Is (.bool false), Is (.pointer (some ⟨gb, 3, none⟩)), Is (.int .i64 ix), Is (.int .i64 (k : Int)), Is (.int .i64 mq), Is (.int .i64 mo), Is (.bool false), Is (.bool false), Is (.bool false)] [] (fun _ => True) (fun _ _ => false) (by kernel_rfl) (by kernel_rfl) (by kernel_rfl) (by kernel_rfl) ⟨Is.stable _, Is.stable _, Is.stable _, Is.stable _, Is.stable _, Is.stable _, Is.stable _, Is.stable _, Is.stable _, Is.stable _, Is.stable _, Is.stable _, Is.stable _, Is.stable _, Is.stable _, Is.stable _, Is.stable _, Is.stable _, Is.stable _, Is.stable _, Is.stable _, Is.stable _, trivial⟩ trivial (fun _ _ _ _ h => h) trivial ?_ ?_
        · refine ⟨fun u w' d hf hR k1 k0 kM => ?_, fun u w' d hf hR k1 k0 kM => ?_, fun u w' d hf hR k1 k0 kM => ?_, fun u w' d hf hR k1 k0 kM => ?_, fun u w' d hf hR k1 k0 kM => ?_, fun u w' d hf hR k1 k0 kM => ?_, fun u w' d hf hR k1 k0 kM => ?_, fun u w' d hf hR k1 k0 kM => ?_, fun u w' d hf hR k1 k0 kM => ?_, fun u w' d hf hR k1 k0 kM => ?_, fun u w' d hf hR k1 k0 kM => ?_, fun u w' d hf hR k1 k0 kM => ?_, fun u w' d hf hR k1 k0 kM => ?_, fun u w' d hf hR k1 k0 kM => ?_, fun u w' d hf hR k1 k0 kM => ?_, fun u w' d hf hR k1 k0 kM => ?_, fun u w' d hf hR k1 k0 kM => ?_, fun u w' d hf hR k1 k0 kM => ?_, fun u w' d hf hR k1 k0 kM => ?_, fun u w' d hf hR k1 k0 kM => ?_, fun u w' d hf hR k1 k0 kM => ?_, fun u w' d hf hR k1 k0 kM => ?_, trivial⟩
          all_goals simp only [List.take_succ_cons, List.take_zero, List.map_cons, List.map_nil, puts, Act.put, List.setIfInBounds_toArray, List.set_cons_zero, List.set_cons_succ, Nat.reduceAdd, Nat.zero_add]
          · clear hR k1 k0 kM
            refine .inl ⟨by kernel_rfl, ?_⟩
            go_simp
            exact ⟨_, rfl, Fr.refl _ _, rfl, trivial⟩
          · have h0 : u 0 = _ := hR 0 (by kernel_rfl)
            clear hR k1 k0 kM
            simp only [h0]
            refine .inl ⟨by kernel_rfl, ?_⟩
            have q := hf.cellSome (n2.out) (fun x => x)
            go_simp
            exact ⟨_, rfl, Fr.refl _ _, rfl, trivial⟩
          · have h1 : u 1 = _ := hR 1 (by kernel_rfl)
            clear hR k1 k0 kM
            simp only [h1]
            refine .inl ⟨by kernel_rfl, ?_⟩
            go_simp
            exact ⟨_, rfl, Fr.refl _ _, rfl, trivial⟩
          · have h2 : u 2 = _ := hR 2 (by kernel_rfl)
            clear hR k1 k0 kM
            simp only [h2]
            refine .inl ⟨by kernel_rfl, ?_⟩
            go_simp
            exact ⟨_, rfl, Fr.refl _ _, rfl, trivial⟩
          · have h3 : u 3 = _ := hR 3 (by kernel_rfl)
            clear hR k1 k0 kM
            simp only [h3]
            refine .inl ⟨by kernel_rfl, ?_⟩
            go_simp
            exact ⟨_, rfl, Fr.refl _ _, rfl, trivial⟩
          · have h4 : u 4 = _ := hR 4 (by kernel_rfl)
            have h3 : u 3 = _ := hR 3 (by kernel_rfl)
            clear hR k1 k0 kM
            simp only [h4, h3]
            refine .inl ⟨by kernel_rfl, ?_⟩
            have q := hf.cellSome (n2.out) (fun x => x)
            go_simp
            exact ⟨_, rfl, Fr.refl _ _, rfl, trivial⟩
          · have h5 : u 5 = _ := hR 5 (by kernel_rfl)
            have h3 : u 3 = _ := hR 3 (by kernel_rfl)
            clear hR k1 k0 kM
            simp only [h5, h3]
            refine .inl ⟨by kernel_rfl, ?_⟩
            go_simp
            exact ⟨_, rfl, Fr.refl _ _, rfl, trivial⟩
          · have h3 : u 3 = _ := hR 3 (by kernel_rfl)
            have h6 : u 6 = _ := hR 6 (by kernel_rfl)
            clear hR k1 k0 kM
            simp only [h3, h6]
            refine .inl ⟨by kernel_rfl, ?_⟩
            go_simp
            exact ⟨_, rfl, Fr.refl _ _, rfl, trivial⟩
          · have h7 : u 7 = _ := hR 7 (by kernel_rfl)
            clear hR k1 k0 kM
            simp only [h7]
            refine .inl ⟨by kernel_rfl, ?_⟩
            go_simp
            exact ⟨_, rfl, Fr.refl _ _, rfl, trivial⟩
          · have h8 : u 8 = _ := hR 8 (by kernel_rfl)
            clear hR k1 k0 kM
            simp only [h8]
            refine .inl ⟨by kernel_rfl, ?_⟩
            go_simp
            exact ⟨_, rfl, Fr.refl _ _, rfl, trivial⟩
          · have h9 : u 9 = _ := hR 9 (by kernel_rfl)
            have h8 : u 8 = _ := hR 8 (by kernel_rfl)
            clear hR k1 k0 kM
            simp only [h9, h8]
            refine .inl ⟨by kernel_rfl, ?_⟩
            have q := hf.cellSome (n3.out) (fun x => x)
            go_simp
            exact ⟨_, rfl, Fr.refl _ _, rfl, trivial⟩
          · have h10 : u 10 = _ := hR 10 (by kernel_rfl)
            have h8 : u 8 = _ := hR 8 (by kernel_rfl)
            clear hR k1 k0 kM
            simp only [h10, h8]
            refine .inl ⟨by kernel_rfl, ?_⟩
            go_simp
            exact ⟨_, rfl, Fr.refl _ _, rfl, trivial⟩
          · have h8 : u 8 = _ := hR 8 (by kernel_rfl)
            have h11 : u 11 = _ := hR 11 (by kernel_rfl)
            clear hR k1 k0 kM
            simp only [h8, h11]
            refine .inl ⟨by kernel_rfl, ?_⟩
            go_simp
            exact ⟨_, rfl, Fr.refl _ _, rfl, trivial⟩
          · have h12 : u 12 = _ := hR 12 (by kernel_rfl)
            clear hR k1 k0 kM
            simp only [h12]
            refine .inl ⟨by kernel_rfl, ?_⟩
            go_simp
            exact ⟨_, rfl, Fr.refl _ _, rfl, trivial⟩
          · have h13 : u 13 = _ := hR 13 (by kernel_rfl)
            clear hR k1 k0 kM
            simp only [h13]
            refine .inl ⟨by kernel_rfl, ?_⟩
            go_simp
            exact ⟨_, rfl, Fr.refl _ _, rfl, trivial⟩
          · have h14 : u 14 = _ := hR 14 (by kernel_rfl)
            have h13 : u 13 = _ := hR 13 (by kernel_rfl)
            clear hR k1 k0 kM
            simp only [h14, h13]
            refine .inl ⟨by kernel_rfl, ?_⟩
            have q := hf.cellSome (n3.out) (fun x => x)
            go_simp
            exact ⟨_, rfl, Fr.refl _ _, rfl, trivial⟩
          · have h13 : u 13 = _ := hR 13 (by kernel_rfl)
            clear hR k1 k0 kM
            simp only [h13]
            refine .inl ⟨by kernel_rfl, ?_⟩
            go_simp
            exact ⟨_, rfl, Fr.refl _ _, rfl, trivial⟩
          · have h16 : u 16 = _ := hR 16 (by kernel_rfl)
            have h13 : u 13 = _ := hR 13 (by kernel_rfl)
            clear hR k1 k0 kM
            simp only [h16, h13]
            refine .inl ⟨by kernel_rfl, ?_⟩
            go_simp
            refine (CM.out _).mono ?_
            rintro e w9 ⟨rfl, rfl⟩
            exact ⟨_, rfl, Fr.refl _ _, rfl, trivial⟩
          · have h17 : u 17 = _ := hR 17 (by kernel_rfl)
            have h13 : u 13 = _ := hR 13 (by kernel_rfl)
            clear hR k1 k0 kM
            simp only [h17, h13]
            refine .inl ⟨by kernel_rfl, ?_⟩
            have q := HMX.out
            go_simp
            exact ⟨_, rfl, Fr.refl _ _, rfl, trivial⟩
          · have h15 : u 15 = _ := hR 15 (by kernel_rfl)
            have h18 : u 18 = _ := hR 18 (by kernel_rfl)
            have h13 : u 13 = _ := hR 13 (by kernel_rfl)
            clear hR k1 k0 kM
            simp only [h15, h18, h13]
            refine .inl ⟨by kernel_rfl, ?_⟩
            go_simp
            exact ⟨_, rfl, Fr.refl _ _, rfl, trivial⟩
          · have h13 : u 13 = _ := hR 13 (by kernel_rfl)
            have h19 : u 19 = _ := hR 19 (by kernel_rfl)
            clear hR k1 k0 kM
            simp only [h13, h19]
            refine .inl ⟨by kernel_rfl, ?_⟩
            go_simp
            exact ⟨_, rfl, Fr.refl _ _, rfl, trivial⟩
          · have h20 : u 20 = _ := hR 20 (by kernel_rfl)
            clear hR k1 k0 kM
            simp only [h20]
            refine .inl ⟨by kernel_rfl, ?_⟩
            go_simp
            exact ⟨_, rfl, Fr.refl _ _, rfl, trivial⟩
        · intro u w' hf hR kM
          have k21 : u 21 = _ := hR 21 (by omega)
          clear hR kM
          simp only [List.take_succ_cons, List.take_zero, List.map_cons, List.map_nil, puts, Act.put, List.setIfInBounds_toArray, List.set_cons_zero, List.set_cons_succ, List.drop_succ_cons, List.drop_zero, Nat.reduceAdd, Nat.zero_add, k21]
          have FA := Lib.hid (F1.out.trans hf)
          have m4 := hf.cellSome n4.out (fun x => x)
          clear hf k21 n2 n3 n4
          go_wp2_with fail
          refine (CT.out _).mono ?_
          rintro e w9 ⟨rfl, rfl⟩
          go_wp2
          go_ret
          refine ⟨_, rfl, ?_, FA.out⟩
          rw [HOK.out]
          rw [okUs]
          simp only [He_ow.out, He_ix.out, He_tx.out, HNU.out]
          simp
    · have He_ix := Lib.hid e_ix
      have t_e_ix := bne0 e_ix
      clear e_ix
      go_wp2
      go_ret
      refine ⟨_, rfl, ?_, F1.out⟩
      rw [HOK.out]
      simp [okUs, He_ix.out]
set_option maxRecDepth 100000 in
set_option maxHeartbeats 8000000 in
theorem rCheck_0001 (k : Nat) (ow : ByteArray) (nu ix : Int) (tx wd : ByteArray) (mo : Int) (w : World) (hk : 1 ≤ k ∧ k ≤ 20) (hu : usaL[k]? = some ⟨wd, false, false, false, true, mo⟩) (ho : ow.size ≤ 1099511627776) (ht : tx.size ≤ 1099511627776) (_hmo : 0 ≤ mo) (hmo0 : mo = 0) :
    Calls Tryd.prog 80 #[.agg #[.int .i64 (k : Int), .string ow, .int .i64 nu, .int .i64 ix, .string tx]] w (Checked w ⟨(k : Int), ow, nu, ix, tx⟩) := by
  have HOK : Hid (okNm ⟨(k : Int), ow, nu, ix, tx⟩ = okUs ⟨wd, false, false, false, true, mo⟩ ⟨(k : Int), ow, nu, ix, tx⟩) := by
    simp only [Hid, okNm, Int.toNat_natCast, hu]
    rw [decide_eq_true (show (1 : Int) ≤ (k : Int) by omega), decide_eq_true (show (k : Int) ≤ 20 by omega)]
    rfl
  have HOW := Lib.hid ho
  have HTX := Lib.hid ht
  have CO : Hid (∀ w, Calls Tryd.prog 97 #[.int .i64 (k : Int)] w (SameW w (.bool false))) := fun w => rOwned_any k _ w hk hu
  have CN : Hid (∀ w, Calls Tryd.prog 99 #[.int .i64 (k : Int)] w (SameW w (.bool false))) := fun w => rNumbered_any k _ w hk hu
  have CT : Hid (∀ w, Calls Tryd.prog 101 #[.int .i64 (k : Int)] w (SameW w (.bool true))) := fun w => rTexted_any k _ w hk hu
  obtain ⟨mq, hmq⟩ : ∃ mq : Int, mq = (if false = true then mo else -1) := ⟨_, rfl⟩
  have CM : Hid (∀ w, Calls Tryd.prog 100 #[.int .i64 (k : Int)] w (SameW w (.int .i64 mq))) := fun w => by rw [hmq]; exact rMost_any k _ w hk hu
  have hmq2 : mq = -1 := by rw [hmq]; simp
  have tq : decide (mq < 0) = true := decide_eq_true (by omega)
  have HMX : Hid (max mq 0 = mo) := by simp only [Hid]; omega
  have k1 : decide ((k : Int) < 1) = false := decide_eq_false (by omega)
  have k1' : ¬ (k : Int) < 1 := by omega
  have k2 : decide ((20 : Int) < (k : Int)) = false := decide_eq_false (by omega)
  have k2' : ¬ (20 : Int) < (k : Int) := by omega
  clear hk hu ho ht hmq hmq2
  go_enter Tryd.func80, Tryd.ntmps80
  go_wp2_with (refine wpList_boxBlk rfl 40 (.tmp 0) rfl #[.int .i64 (k : Int), .string ow, .int .i64 nu, .int .i64 ix, .string tx] rfl ?_)
  intro w1 n1
  have F1 := Lib.hid n1.fr
  have NB := Lib.hid n1.blk
  have c0 : w1.cell? ⟨w.heap.size, 0, none⟩ = some (.int .i64 (k : Int)) := n1.blk.cell 0
  have c1 : w1.cell? ⟨w.heap.size, 1, none⟩ = some (.string ow) := n1.blk.cell 1
  have c2 : w1.cell? ⟨w.heap.size, 2, none⟩ = some (.int .i64 nu) := n1.blk.cell 2
  have c3 : w1.cell? ⟨w.heap.size, 3, none⟩ = some (.int .i64 ix) := n1.blk.cell 3
  have c4 : w1.cell? ⟨w.heap.size, 4, none⟩ = some (.string tx) := n1.blk.cell 4
  clear n1
  generalize w.heap.size = gb at *
  go_wp2_with fail
  refine (CO.out _).mono ?_
  rintro e w9 ⟨rfl, rfl⟩
  cases e_ow : ow.toList.isEmpty
  · have He_ow := Lib.hid e_ow
    go_wp2
    go_ret
    refine ⟨_, rfl, ?_, F1.out⟩
    rw [HOK.out]
    simp [okUs, He_ow.out]
  · have He_ow := Lib.hid e_ow
    go_wp2_with fail
    refine (CN.out _).mono ?_
    rintro e w9 ⟨rfl, rfl⟩
    by_cases e_nu : nu = 0
    · have He_nu := Lib.hid e_nu
      have t_e_nu := beq0 e_nu
      clear e_nu
      go_wp2_with fail
      refine (CM.out _).mono ?_
      rintro e w9 ⟨rfl, rfl⟩
      by_cases e_ix : ix = 0
      · have He_ix := Lib.hid e_ix
        have t_e_ix := beq0 e_ix
        clear e_ix
        go_wp2_with fail
        refine (CT.out _).mono ?_
        rintro e w9 ⟨rfl, rfl⟩
        go_wp2_with fail
        refine (CO.out _).mono ?_
        rintro e w9 ⟨rfl, rfl⟩
        have n2 := Lib.hid c2
        have n3 := Lib.hid c3
        have n4 := Lib.hid c4
        clear c0 c1 c2 c3 c4
        have u0 : decide (nu < 0) = false := decide_eq_false (by have := He_nu.out; omega)
        have u1 : decide (1073741824 < nu) = false := decide_eq_false (by have := He_nu.out; omega)
        have v0 : decide (ix < 0) = false := decide_eq_false (by have := He_ix.out; omega)
        have v1 : decide (mo < ix) = false := decide_eq_false (by have := He_ix.out; omega)
        go_upto_region 8 with fail
        refine wp_region_st 22 Nothing [Is (.pointer (some ⟨gb, 2, none⟩)), Is (.int .i64 nu), Is (.bool false), Is (.bool false), Is (.pointer (some ⟨gb, 2, none⟩)), Is (.int .i64 nu), Is (.bool false), Is (.bool false), Is (.bool false), Is (.pointer (some ⟨gb, 3, none⟩)), Is (.int .i64 ix), Is (.bool false), Is (.bool false), Is (.bool false), Is (.pointer (some ⟨gb, 3, none⟩)), Is (.int .i64 ix), Is (.int .i64 (k : Int)), Is (.int .i64 mq), Is (.int .i64 mo), Is (.bool false), Is (.bool false), Is (.bool false)] [] (fun _ => True) (fun _ _ => false) (by kernel_rfl) (by kernel_rfl) (by kernel_rfl) (by kernel_rfl) ⟨Is.stable _, Is.stable _, Is.stable _, Is.stable _, Is.stable _, Is.stable _, Is.stable _, Is.stable _, Is.stable _, Is.stable _, Is.stable _, Is.stable _, Is.stable _, Is.stable _, Is.stable _, Is.stable _, Is.stable _, Is.stable _, Is.stable _, Is.stable _, Is.stable _, Is.stable _, trivial⟩ trivial (fun _ _ _ _ h => h) trivial ?_ ?_
        · refine ⟨fun u w' d hf hR k1 k0 kM => ?_, fun u w' d hf hR k1 k0 kM => ?_, fun u w' d hf hR k1 k0 kM => ?_, fun u w' d hf hR k1 k0 kM => ?_, fun u w' d hf hR k1 k0 kM => ?_, fun u w' d hf hR k1 k0 kM => ?_, fun u w' d hf hR k1 k0 kM => ?_, fun u w' d hf hR k1 k0 kM => ?_, fun u w' d hf hR k1 k0 kM => ?_, fun u w' d hf hR k1 k0 kM => ?_, fun u w' d hf hR k1 k0 kM => ?_, fun u w' d hf hR k1 k0 kM => ?_, fun u w' d hf hR k1 k0 kM => ?_, fun u w' d hf hR k1 k0 kM => ?_, fun u w' d hf hR k1 k0 kM => ?_, fun u w' d hf hR k1 k0 kM => ?_, fun u w' d hf hR k1 k0 kM => ?_, fun u w' d hf hR k1 k0 kM => ?_, fun u w' d hf hR k1 k0 kM => ?_, fun u w' d hf hR k1 k0 kM => ?_, fun u w' d hf hR k1 k0 kM => ?_, fun u w' d hf hR k1 k0 kM => ?_, trivial⟩
          all_goals simp only [List.take_succ_cons, List.take_zero, List.map_cons, List.map_nil, puts, Act.put, List.setIfInBounds_toArray, List.set_cons_zero, List.set_cons_succ, Nat.reduceAdd, Nat.zero_add]
          · clear hR k1 k0 kM
            refine .inl ⟨by kernel_rfl, ?_⟩
            go_simp
            exact ⟨_, rfl, Fr.refl _ _, rfl, trivial⟩
          · have h0 : u 0 = _ := hR 0 (by kernel_rfl)
            clear hR k1 k0 kM
            simp only [h0]
            refine .inl ⟨by kernel_rfl, ?_⟩
            have q := hf.cellSome (n2.out) (fun x => x)
            go_simp
            exact ⟨_, rfl, Fr.refl _ _, rfl, trivial⟩
          · have h1 : u 1 = _ := hR 1 (by kernel_rfl)
            clear hR k1 k0 kM
            simp only [h1]
            refine .inl ⟨by kernel_rfl, ?_⟩
            go_simp
            exact ⟨_, rfl, Fr.refl _ _, rfl, trivial⟩
          · have h2 : u 2 = _ := hR 2 (by kernel_rfl)
            clear hR k1 k0 kM
            simp only [h2]
            refine .inl ⟨by kernel_rfl, ?_⟩
            go_simp
            exact ⟨_, rfl, Fr.refl _ _, rfl, trivial⟩
          · have h3 : u 3 = _ := hR 3 (by kernel_rfl)
            clear hR k1 k0 kM
            simp only [h3]
            refine .inl ⟨by kernel_rfl, ?_⟩
            go_simp
            exact ⟨_, rfl, Fr.refl _ _, rfl, trivial⟩
          · have h4 : u 4 = _ := hR 4 (by kernel_rfl)
            have h3 : u 3 = _ := hR 3 (by kernel_rfl)
            clear hR k1 k0 kM
            simp only [h4, h3]
            refine .inl ⟨by kernel_rfl, ?_⟩
            have q := hf.cellSome (n2.out) (fun x => x)
            go_simp
            exact ⟨_, rfl, Fr.refl _ _, rfl, trivial⟩
          · have h5 : u 5 = _ := hR 5 (by kernel_rfl)
            have h3 : u 3 = _ := hR 3 (by kernel_rfl)
            clear hR k1 k0 kM
            simp only [h5, h3]
            refine .inl ⟨by kernel_rfl, ?_⟩
            go_simp
            exact ⟨_, rfl, Fr.refl _ _, rfl, trivial⟩
          · have h3 : u 3 = _ := hR 3 (by kernel_rfl)
            have h6 : u 6 = _ := hR 6 (by kernel_rfl)
            clear hR k1 k0 kM
            simp only [h3, h6]
            refine .inl ⟨by kernel_rfl, ?_⟩
            go_simp
            exact ⟨_, rfl, Fr.refl _ _, rfl, trivial⟩
          · have h7 : u 7 = _ := hR 7 (by kernel_rfl)
            clear hR k1 k0 kM
            simp only [h7]
            refine .inl ⟨by kernel_rfl, ?_⟩
            go_simp
            exact ⟨_, rfl, Fr.refl _ _, rfl, trivial⟩
          · have h8 : u 8 = _ := hR 8 (by kernel_rfl)
            clear hR k1 k0 kM
            simp only [h8]
            refine .inl ⟨by kernel_rfl, ?_⟩
            go_simp
            exact ⟨_, rfl, Fr.refl _ _, rfl, trivial⟩
          · have h9 : u 9 = _ := hR 9 (by kernel_rfl)
            have h8 : u 8 = _ := hR 8 (by kernel_rfl)
            clear hR k1 k0 kM
            simp only [h9, h8]
            refine .inl ⟨by kernel_rfl, ?_⟩
            have q := hf.cellSome (n3.out) (fun x => x)
            go_simp
            exact ⟨_, rfl, Fr.refl _ _, rfl, trivial⟩
          · have h10 : u 10 = _ := hR 10 (by kernel_rfl)
            have h8 : u 8 = _ := hR 8 (by kernel_rfl)
            clear hR k1 k0 kM
            simp only [h10, h8]
            refine .inl ⟨by kernel_rfl, ?_⟩
            go_simp
            exact ⟨_, rfl, Fr.refl _ _, rfl, trivial⟩
          · have h8 : u 8 = _ := hR 8 (by kernel_rfl)
            have h11 : u 11 = _ := hR 11 (by kernel_rfl)
            clear hR k1 k0 kM
            simp only [h8, h11]
            refine .inl ⟨by kernel_rfl, ?_⟩
            go_simp
            exact ⟨_, rfl, Fr.refl _ _, rfl, trivial⟩
          · have h12 : u 12 = _ := hR 12 (by kernel_rfl)
            clear hR k1 k0 kM
            simp only [h12]
            refine .inl ⟨by kernel_rfl, ?_⟩
            go_simp
            exact ⟨_, rfl, Fr.refl _ _, rfl, trivial⟩
          · have h13 : u 13 = _ := hR 13 (by kernel_rfl)
            clear hR k1 k0 kM
            simp only [h13]
            refine .inl ⟨by kernel_rfl, ?_⟩
            go_simp
            exact ⟨_, rfl, Fr.refl _ _, rfl, trivial⟩
          · have h14 : u 14 = _ := hR 14 (by kernel_rfl)
            have h13 : u 13 = _ := hR 13 (by kernel_rfl)
            clear hR k1 k0 kM
            simp only [h14, h13]
            refine .inl ⟨by kernel_rfl, ?_⟩
            have q := hf.cellSome (n3.out) (fun x => x)
            go_simp
            exact ⟨_, rfl, Fr.refl _ _, rfl, trivial⟩
          · have h13 : u 13 = _ := hR 13 (by kernel_rfl)
            clear hR k1 k0 kM
            simp only [h13]
            refine .inl ⟨by kernel_rfl, ?_⟩
            go_simp
            exact ⟨_, rfl, Fr.refl _ _, rfl, trivial⟩
          · have h16 : u 16 = _ := hR 16 (by kernel_rfl)
            have h13 : u 13 = _ := hR 13 (by kernel_rfl)
            clear hR k1 k0 kM
            simp only [h16, h13]
            refine .inl ⟨by kernel_rfl, ?_⟩
            go_simp
            refine (CM.out _).mono ?_
            rintro e w9 ⟨rfl, rfl⟩
            exact ⟨_, rfl, Fr.refl _ _, rfl, trivial⟩
          · have h17 : u 17 = _ := hR 17 (by kernel_rfl)
            have h13 : u 13 = _ := hR 13 (by kernel_rfl)
            clear hR k1 k0 kM
            simp only [h17, h13]
            refine .inl ⟨by kernel_rfl, ?_⟩
            have q := HMX.out
            go_simp
            exact ⟨_, rfl, Fr.refl _ _, rfl, trivial⟩
          · have h15 : u 15 = _ := hR 15 (by kernel_rfl)
            have h18 : u 18 = _ := hR 18 (by kernel_rfl)
            have h13 : u 13 = _ := hR 13 (by kernel_rfl)
            clear hR k1 k0 kM
            simp only [h15, h18, h13]
            refine .inl ⟨by kernel_rfl, ?_⟩
            go_simp
            exact ⟨_, rfl, Fr.refl _ _, rfl, trivial⟩
          · have h13 : u 13 = _ := hR 13 (by kernel_rfl)
            have h19 : u 19 = _ := hR 19 (by kernel_rfl)
            clear hR k1 k0 kM
            simp only [h13, h19]
            refine .inl ⟨by kernel_rfl, ?_⟩
            go_simp
            exact ⟨_, rfl, Fr.refl _ _, rfl, trivial⟩
          · have h20 : u 20 = _ := hR 20 (by kernel_rfl)
            clear hR k1 k0 kM
            simp only [h20]
            refine .inl ⟨by kernel_rfl, ?_⟩
            go_simp
            exact ⟨_, rfl, Fr.refl _ _, rfl, trivial⟩
        · intro u w' hf hR kM
          have k21 : u 21 = _ := hR 21 (by omega)
          clear hR kM
          simp only [List.take_succ_cons, List.take_zero, List.map_cons, List.map_nil, puts, Act.put, List.setIfInBounds_toArray, List.set_cons_zero, List.set_cons_succ, List.drop_succ_cons, List.drop_zero, Nat.reduceAdd, Nat.zero_add, k21]
          have FA := Lib.hid (F1.out.trans hf)
          have m4 := hf.cellSome n4.out (fun x => x)
          clear hf k21 n2 n3 n4
          go_wp2_with fail
          refine (CT.out _).mono ?_
          rintro e w9 ⟨rfl, rfl⟩
          have K2 := Lib.hid (fun w => rWord_any tx w HTX.out)
          obtain ⟨v2, hv2⟩ : ∃ v2, wordO tx = v2 := ⟨_, rfl⟩
          have Hv2 := Lib.hid hv2
          rw [hv2] at K2
          clear hv2
          go_wp2_with fail
          refine (K2.out _).mono ?_
          rintro e w9 ⟨rfl, rfl⟩
          cases v2
          · go_wp2
            go_ret
            refine ⟨_, rfl, ?_, FA.out⟩
            rw [HOK.out]
            have hh := Hv2.out
            simp [okUs, hh]
          · go_wp2
            go_ret
            refine ⟨_, rfl, ?_, FA.out⟩
            rw [HOK.out]
            rw [okUs]
            simp only [He_ow.out, He_nu.out, He_ix.out, Hv2.out]
            simp
      · have He_ix := Lib.hid e_ix
        have t_e_ix := bne0 e_ix
        clear e_ix
        go_wp2
        go_ret
        refine ⟨_, rfl, ?_, F1.out⟩
        rw [HOK.out]
        simp [okUs, He_ix.out]
    · have He_nu := Lib.hid e_nu
      have t_e_nu := bne0 e_nu
      clear e_nu
      go_wp2
      go_ret
      refine ⟨_, rfl, ?_, F1.out⟩
      rw [HOK.out]
      simp [okUs, He_nu.out]
set_option maxRecDepth 100000 in
set_option maxHeartbeats 8000000 in
theorem rCheck_0000 (k : Nat) (ow : ByteArray) (nu ix : Int) (tx wd : ByteArray) (mo : Int) (w : World) (hk : 1 ≤ k ∧ k ≤ 20) (hu : usaL[k]? = some ⟨wd, false, false, false, false, mo⟩) (ho : ow.size ≤ 1099511627776) (ht : tx.size ≤ 1099511627776) (_hmo : 0 ≤ mo) (hmo0 : mo = 0) :
    Calls Tryd.prog 80 #[.agg #[.int .i64 (k : Int), .string ow, .int .i64 nu, .int .i64 ix, .string tx]] w (Checked w ⟨(k : Int), ow, nu, ix, tx⟩) := by
  have HOK : Hid (okNm ⟨(k : Int), ow, nu, ix, tx⟩ = okUs ⟨wd, false, false, false, false, mo⟩ ⟨(k : Int), ow, nu, ix, tx⟩) := by
    simp only [Hid, okNm, Int.toNat_natCast, hu]
    rw [decide_eq_true (show (1 : Int) ≤ (k : Int) by omega), decide_eq_true (show (k : Int) ≤ 20 by omega)]
    rfl
  have HOW := Lib.hid ho
  have HTX := Lib.hid ht
  have CO : Hid (∀ w, Calls Tryd.prog 97 #[.int .i64 (k : Int)] w (SameW w (.bool false))) := fun w => rOwned_any k _ w hk hu
  have CN : Hid (∀ w, Calls Tryd.prog 99 #[.int .i64 (k : Int)] w (SameW w (.bool false))) := fun w => rNumbered_any k _ w hk hu
  have CT : Hid (∀ w, Calls Tryd.prog 101 #[.int .i64 (k : Int)] w (SameW w (.bool false))) := fun w => rTexted_any k _ w hk hu
  obtain ⟨mq, hmq⟩ : ∃ mq : Int, mq = (if false = true then mo else -1) := ⟨_, rfl⟩
  have CM : Hid (∀ w, Calls Tryd.prog 100 #[.int .i64 (k : Int)] w (SameW w (.int .i64 mq))) := fun w => by rw [hmq]; exact rMost_any k _ w hk hu
  have hmq2 : mq = -1 := by rw [hmq]; simp
  have tq : decide (mq < 0) = true := decide_eq_true (by omega)
  have HMX : Hid (max mq 0 = mo) := by simp only [Hid]; omega
  have k1 : decide ((k : Int) < 1) = false := decide_eq_false (by omega)
  have k1' : ¬ (k : Int) < 1 := by omega
  have k2 : decide ((20 : Int) < (k : Int)) = false := decide_eq_false (by omega)
  have k2' : ¬ (20 : Int) < (k : Int) := by omega
  clear hk hu ho ht hmq hmq2
  go_enter Tryd.func80, Tryd.ntmps80
  go_wp2_with (refine wpList_boxBlk rfl 40 (.tmp 0) rfl #[.int .i64 (k : Int), .string ow, .int .i64 nu, .int .i64 ix, .string tx] rfl ?_)
  intro w1 n1
  have F1 := Lib.hid n1.fr
  have NB := Lib.hid n1.blk
  have c0 : w1.cell? ⟨w.heap.size, 0, none⟩ = some (.int .i64 (k : Int)) := n1.blk.cell 0
  have c1 : w1.cell? ⟨w.heap.size, 1, none⟩ = some (.string ow) := n1.blk.cell 1
  have c2 : w1.cell? ⟨w.heap.size, 2, none⟩ = some (.int .i64 nu) := n1.blk.cell 2
  have c3 : w1.cell? ⟨w.heap.size, 3, none⟩ = some (.int .i64 ix) := n1.blk.cell 3
  have c4 : w1.cell? ⟨w.heap.size, 4, none⟩ = some (.string tx) := n1.blk.cell 4
  clear n1
  generalize w.heap.size = gb at *
  go_wp2_with fail
  refine (CO.out _).mono ?_
  rintro e w9 ⟨rfl, rfl⟩
  cases e_ow : ow.toList.isEmpty
  · have He_ow := Lib.hid e_ow
    go_wp2
    go_ret
    refine ⟨_, rfl, ?_, F1.out⟩
    rw [HOK.out]
    simp [okUs, He_ow.out]
  · have He_ow := Lib.hid e_ow
    go_wp2_with fail
    refine (CN.out _).mono ?_
    rintro e w9 ⟨rfl, rfl⟩
    by_cases e_nu : nu = 0
    · have He_nu := Lib.hid e_nu
      have t_e_nu := beq0 e_nu
      clear e_nu
      go_wp2_with fail
      refine (CM.out _).mono ?_
      rintro e w9 ⟨rfl, rfl⟩
      by_cases e_ix : ix = 0
      · have He_ix := Lib.hid e_ix
        have t_e_ix := beq0 e_ix
        clear e_ix
        go_wp2_with fail
        refine (CT.out _).mono ?_
        rintro e w9 ⟨rfl, rfl⟩
        cases e_tx : tx.toList.isEmpty
        · have He_tx := Lib.hid e_tx
          go_wp2
          go_ret
          refine ⟨_, rfl, ?_, F1.out⟩
          rw [HOK.out]
          simp [okUs, He_tx.out]
        · have He_tx := Lib.hid e_tx
          go_wp2_with fail
          refine (CO.out _).mono ?_
          rintro e w9 ⟨rfl, rfl⟩
          have n2 := Lib.hid c2
          have n3 := Lib.hid c3
          have n4 := Lib.hid c4
          clear c0 c1 c2 c3 c4
          have u0 : decide (nu < 0) = false := decide_eq_false (by have := He_nu.out; omega)
          have u1 : decide (1073741824 < nu) = false := decide_eq_false (by have := He_nu.out; omega)
          have v0 : decide (ix < 0) = false := decide_eq_false (by have := He_ix.out; omega)
          have v1 : decide (mo < ix) = false := decide_eq_false (by have := He_ix.out; omega)
          go_upto_region 8 with fail
          refine wp_region_st 22 Nothing [Is (.pointer (some ⟨gb, 2, none⟩)), Is (.int .i64 nu), Is (.bool false), Is (.bool false), Is (.pointer (some ⟨gb, 2, none⟩)), Is (.int .i64 nu), Is (.bool false), Is (.bool false), Is (.bool false), Is (.pointer (some ⟨gb, 3, none⟩)), Is (.int .i64 ix), Is (.bool false), Is (.bool false), Is (.bool false), Is (.pointer (some ⟨gb, 3, none⟩)), Is (.int .i64 ix), Is (.int .i64 (k : Int)), Is (.int .i64 mq), Is (.int .i64 mo), Is (.bool false), Is (.bool false), Is (.bool false)] [] (fun _ => True) (fun _ _ => false) (by kernel_rfl) (by kernel_rfl) (by kernel_rfl) (by kernel_rfl) ⟨Is.stable _, Is.stable _, Is.stable _, Is.stable _, Is.stable _, Is.stable _, Is.stable _, Is.stable _, Is.stable _, Is.stable _, Is.stable _, Is.stable _, Is.stable _, Is.stable _, Is.stable _, Is.stable _, Is.stable _, Is.stable _, Is.stable _, Is.stable _, Is.stable _, Is.stable _, trivial⟩ trivial (fun _ _ _ _ h => h) trivial ?_ ?_
          · refine ⟨fun u w' d hf hR k1 k0 kM => ?_, fun u w' d hf hR k1 k0 kM => ?_, fun u w' d hf hR k1 k0 kM => ?_, fun u w' d hf hR k1 k0 kM => ?_, fun u w' d hf hR k1 k0 kM => ?_, fun u w' d hf hR k1 k0 kM => ?_, fun u w' d hf hR k1 k0 kM => ?_, fun u w' d hf hR k1 k0 kM => ?_, fun u w' d hf hR k1 k0 kM => ?_, fun u w' d hf hR k1 k0 kM => ?_, fun u w' d hf hR k1 k0 kM => ?_, fun u w' d hf hR k1 k0 kM => ?_, fun u w' d hf hR k1 k0 kM => ?_, fun u w' d hf hR k1 k0 kM => ?_, fun u w' d hf hR k1 k0 kM => ?_, fun u w' d hf hR k1 k0 kM => ?_, fun u w' d hf hR k1 k0 kM => ?_, fun u w' d hf hR k1 k0 kM => ?_, fun u w' d hf hR k1 k0 kM => ?_, fun u w' d hf hR k1 k0 kM => ?_, fun u w' d hf hR k1 k0 kM => ?_, fun u w' d hf hR k1 k0 kM => ?_, trivial⟩
            all_goals simp only [List.take_succ_cons, List.take_zero, List.map_cons, List.map_nil, puts, Act.put, List.setIfInBounds_toArray, List.set_cons_zero, List.set_cons_succ, Nat.reduceAdd, Nat.zero_add]
            · clear hR k1 k0 kM
              refine .inl ⟨by kernel_rfl, ?_⟩
              go_simp
              exact ⟨_, rfl, Fr.refl _ _, rfl, trivial⟩
            · have h0 : u 0 = _ := hR 0 (by kernel_rfl)
              clear hR k1 k0 kM
              simp only [h0]
              refine .inl ⟨by kernel_rfl, ?_⟩
              have q := hf.cellSome (n2.out) (fun x => x)
              go_simp
              exact ⟨_, rfl, Fr.refl _ _, rfl, trivial⟩
            · have h1 : u 1 = _ := hR 1 (by kernel_rfl)
              clear hR k1 k0 kM
              simp only [h1]
              refine .inl ⟨by kernel_rfl, ?_⟩
              go_simp
              exact ⟨_, rfl, Fr.refl _ _, rfl, trivial⟩
            · have h2 : u 2 = _ := hR 2 (by kernel_rfl)
              clear hR k1 k0 kM
              simp only [h2]
              refine .inl ⟨by kernel_rfl, ?_⟩
              go_simp
              exact ⟨_, rfl, Fr.refl _ _, rfl, trivial⟩
            · have h3 : u 3 = _ := hR 3 (by kernel_rfl)
              clear hR k1 k0 kM
              simp only [h3]
              refine .inl ⟨by kernel_rfl, ?_⟩
              go_simp
              exact ⟨_, rfl, Fr.refl _ _, rfl, trivial⟩
            · have h4 : u 4 = _ := hR 4 (by kernel_rfl)
              have h3 : u 3 = _ := hR 3 (by kernel_rfl)
              clear hR k1 k0 kM
              simp only [h4, h3]
              refine .inl ⟨by kernel_rfl, ?_⟩
              have q := hf.cellSome (n2.out) (fun x => x)
              go_simp
              exact ⟨_, rfl, Fr.refl _ _, rfl, trivial⟩
            · have h5 : u 5 = _ := hR 5 (by kernel_rfl)
              have h3 : u 3 = _ := hR 3 (by kernel_rfl)
              clear hR k1 k0 kM
              simp only [h5, h3]
              refine .inl ⟨by kernel_rfl, ?_⟩
              go_simp
              exact ⟨_, rfl, Fr.refl _ _, rfl, trivial⟩
            · have h3 : u 3 = _ := hR 3 (by kernel_rfl)
              have h6 : u 6 = _ := hR 6 (by kernel_rfl)
              clear hR k1 k0 kM
              simp only [h3, h6]
              refine .inl ⟨by kernel_rfl, ?_⟩
              go_simp
              exact ⟨_, rfl, Fr.refl _ _, rfl, trivial⟩
            · have h7 : u 7 = _ := hR 7 (by kernel_rfl)
              clear hR k1 k0 kM
              simp only [h7]
              refine .inl ⟨by kernel_rfl, ?_⟩
              go_simp
              exact ⟨_, rfl, Fr.refl _ _, rfl, trivial⟩
            · have h8 : u 8 = _ := hR 8 (by kernel_rfl)
              clear hR k1 k0 kM
              simp only [h8]
              refine .inl ⟨by kernel_rfl, ?_⟩
              go_simp
              exact ⟨_, rfl, Fr.refl _ _, rfl, trivial⟩
            · have h9 : u 9 = _ := hR 9 (by kernel_rfl)
              have h8 : u 8 = _ := hR 8 (by kernel_rfl)
              clear hR k1 k0 kM
              simp only [h9, h8]
              refine .inl ⟨by kernel_rfl, ?_⟩
              have q := hf.cellSome (n3.out) (fun x => x)
              go_simp
              exact ⟨_, rfl, Fr.refl _ _, rfl, trivial⟩
            · have h10 : u 10 = _ := hR 10 (by kernel_rfl)
              have h8 : u 8 = _ := hR 8 (by kernel_rfl)
              clear hR k1 k0 kM
              simp only [h10, h8]
              refine .inl ⟨by kernel_rfl, ?_⟩
              go_simp
              exact ⟨_, rfl, Fr.refl _ _, rfl, trivial⟩
            · have h8 : u 8 = _ := hR 8 (by kernel_rfl)
              have h11 : u 11 = _ := hR 11 (by kernel_rfl)
              clear hR k1 k0 kM
              simp only [h8, h11]
              refine .inl ⟨by kernel_rfl, ?_⟩
              go_simp
              exact ⟨_, rfl, Fr.refl _ _, rfl, trivial⟩
            · have h12 : u 12 = _ := hR 12 (by kernel_rfl)
              clear hR k1 k0 kM
              simp only [h12]
              refine .inl ⟨by kernel_rfl, ?_⟩
              go_simp
              exact ⟨_, rfl, Fr.refl _ _, rfl, trivial⟩
            · have h13 : u 13 = _ := hR 13 (by kernel_rfl)
              clear hR k1 k0 kM
              simp only [h13]
              refine .inl ⟨by kernel_rfl, ?_⟩
              go_simp
              exact ⟨_, rfl, Fr.refl _ _, rfl, trivial⟩
            · have h14 : u 14 = _ := hR 14 (by kernel_rfl)
              have h13 : u 13 = _ := hR 13 (by kernel_rfl)
              clear hR k1 k0 kM
              simp only [h14, h13]
              refine .inl ⟨by kernel_rfl, ?_⟩
              have q := hf.cellSome (n3.out) (fun x => x)
              go_simp
              exact ⟨_, rfl, Fr.refl _ _, rfl, trivial⟩
            · have h13 : u 13 = _ := hR 13 (by kernel_rfl)
              clear hR k1 k0 kM
              simp only [h13]
              refine .inl ⟨by kernel_rfl, ?_⟩
              go_simp
              exact ⟨_, rfl, Fr.refl _ _, rfl, trivial⟩
            · have h16 : u 16 = _ := hR 16 (by kernel_rfl)
              have h13 : u 13 = _ := hR 13 (by kernel_rfl)
              clear hR k1 k0 kM
              simp only [h16, h13]
              refine .inl ⟨by kernel_rfl, ?_⟩
              go_simp
              refine (CM.out _).mono ?_
              rintro e w9 ⟨rfl, rfl⟩
              exact ⟨_, rfl, Fr.refl _ _, rfl, trivial⟩
            · have h17 : u 17 = _ := hR 17 (by kernel_rfl)
              have h13 : u 13 = _ := hR 13 (by kernel_rfl)
              clear hR k1 k0 kM
              simp only [h17, h13]
              refine .inl ⟨by kernel_rfl, ?_⟩
              have q := HMX.out
              go_simp
              exact ⟨_, rfl, Fr.refl _ _, rfl, trivial⟩
            · have h15 : u 15 = _ := hR 15 (by kernel_rfl)
              have h18 : u 18 = _ := hR 18 (by kernel_rfl)
              have h13 : u 13 = _ := hR 13 (by kernel_rfl)
              clear hR k1 k0 kM
              simp only [h15, h18, h13]
              refine .inl ⟨by kernel_rfl, ?_⟩
              go_simp
              exact ⟨_, rfl, Fr.refl _ _, rfl, trivial⟩
            · have h13 : u 13 = _ := hR 13 (by kernel_rfl)
              have h19 : u 19 = _ := hR 19 (by kernel_rfl)
              clear hR k1 k0 kM
              simp only [h13, h19]
              refine .inl ⟨by kernel_rfl, ?_⟩
              go_simp
              exact ⟨_, rfl, Fr.refl _ _, rfl, trivial⟩
            · have h20 : u 20 = _ := hR 20 (by kernel_rfl)
              clear hR k1 k0 kM
              simp only [h20]
              refine .inl ⟨by kernel_rfl, ?_⟩
              go_simp
              exact ⟨_, rfl, Fr.refl _ _, rfl, trivial⟩
          · intro u w' hf hR kM
            have k21 : u 21 = _ := hR 21 (by omega)
            clear hR kM
            simp only [List.take_succ_cons, List.take_zero, List.map_cons, List.map_nil, puts, Act.put, List.setIfInBounds_toArray, List.set_cons_zero, List.set_cons_succ, List.drop_succ_cons, List.drop_zero, Nat.reduceAdd, Nat.zero_add, k21]
            have FA := Lib.hid (F1.out.trans hf)
            have m4 := hf.cellSome n4.out (fun x => x)
            clear hf k21 n2 n3 n4
            go_wp2_with fail
            refine (CT.out _).mono ?_
            rintro e w9 ⟨rfl, rfl⟩
            go_wp2
            go_ret
            refine ⟨_, rfl, ?_, FA.out⟩
            rw [HOK.out]
            rw [okUs]
            simp only [He_ow.out, He_nu.out, He_ix.out, He_tx.out]
            simp
      · have He_ix := Lib.hid e_ix
        have t_e_ix := bne0 e_ix
        clear e_ix
        go_wp2
        go_ret
        refine ⟨_, rfl, ?_, F1.out⟩
        rw [HOK.out]
        simp [okUs, He_ix.out]
    · have He_nu := Lib.hid e_nu
      have t_e_nu := bne0 e_nu
      clear e_nu
      go_wp2
      go_ret
      refine ⟨_, rfl, ?_, F1.out⟩
      rw [HOK.out]
      simp [okUs, He_nu.out]
theorem rCheck_any (n : NameV) (w : World) (ho : n.owner.size ≤ 1099511627776) (ht : n.text.size ≤ 1099511627776) : Calls Tryd.prog 80 #[.agg n.cells.toArray] w (Checked w n) := by
  obtain ⟨kd, ow, nu, ix, tx⟩ := n
  simp only at ho ht
  by_cases hk : 1 ≤ kd ∧ kd ≤ 20
  · obtain ⟨k, rfl⟩ : ∃ k : Nat, kd = (k : Int) := ⟨kd.toNat, by omega⟩
    have hk' : 1 ≤ k ∧ k ≤ 20 := by omega
    match k, hk' with
    | 1, h => exact rCheck_1000 1 ow nu ix tx _ _ w h rfl ho ht (by decide) rfl
    | 2, h => exact rCheck_1000 2 ow nu ix tx _ _ w h rfl ho ht (by decide) rfl
    | 3, h => exact rCheck_1010 3 ow nu ix tx _ _ w h rfl ho ht (by decide)
    | 4, h => exact rCheck_1000 4 ow nu ix tx _ _ w h rfl ho ht (by decide) rfl
    | 5, h => exact rCheck_1000 5 ow nu ix tx _ _ w h rfl ho ht (by decide) rfl
    | 6, h => exact rCheck_1000 6 ow nu ix tx _ _ w h rfl ho ht (by decide) rfl
    | 7, h => exact rCheck_1100 7 ow nu ix tx _ _ w h rfl ho ht (by decide) rfl
    | 8, h => exact rCheck_1110 8 ow nu ix tx _ _ w h rfl ho ht (by decide)
    | 9, h => exact rCheck_1101 9 ow nu ix tx _ _ w h rfl ho ht (by decide) rfl
    | 10, h => exact rCheck_1100 10 ow nu ix tx _ _ w h rfl ho ht (by decide) rfl
    | 11, h => exact rCheck_1100 11 ow nu ix tx _ _ w h rfl ho ht (by decide) rfl
    | 12, h => exact rCheck_1100 12 ow nu ix tx _ _ w h rfl ho ht (by decide) rfl
    | 13, h => exact rCheck_0100 13 ow nu ix tx _ _ w h rfl ho ht (by decide) rfl
    | 14, h => exact rCheck_0001 14 ow nu ix tx _ _ w h rfl ho ht (by decide) rfl
    | 15, h => exact rCheck_0000 15 ow nu ix tx _ _ w h rfl ho ht (by decide) rfl
    | 16, h => exact rCheck_0100 16 ow nu ix tx _ _ w h rfl ho ht (by decide) rfl
    | 17, h => exact rCheck_0001 17 ow nu ix tx _ _ w h rfl ho ht (by decide) rfl
    | 18, h => exact rCheck_1110 18 ow nu ix tx _ _ w h rfl ho ht (by decide)
    | 19, h => exact rCheck_1000 19 ow nu ix tx _ _ w h rfl ho ht (by decide) rfl
    | 20, h => exact rCheck_0000 20 ow nu ix tx _ _ w h rfl ho ht (by decide) rfl
    | k + 21, h => omega
  · have hf : (decide (1 ≤ kd) && decide (kd ≤ 20)) = false := by
      rw [Bool.and_eq_false_iff, decide_eq_false_iff_not, decide_eq_false_iff_not]
      omega
    have HOK : Hid (okNm ⟨kd, ow, nu, ix, tx⟩ = false) := by
      simp only [Hid, okNm]
      rw [hf]
      rfl
    clear ho ht hf
    by_cases h1 : kd < 1
    · have t1 : decide (kd < 1) = true := decide_eq_true h1
      clear hk
      go_enter Tryd.func80, Tryd.ntmps80
      go_wp2_with (refine wpList_boxBlk rfl 40 (.tmp 0) rfl #[.int .i64 kd, .string ow, .int .i64 nu, .int .i64 ix, .string tx] rfl ?_)
      intro w1 n1
      have F1 := Lib.hid n1.fr
      have c0 : w1.cell? ⟨w.heap.size, 0, none⟩ = some (.int .i64 kd) := n1.blk.cell 0
      clear n1
      go_wp2
      go_ret
      exact ⟨11, rfl, by rw [HOK.out]; rfl, F1.out⟩
    · have t1 : decide (kd < 1) = false := decide_eq_false h1
      have h2 : 20 < kd := by omega
      have t2 : decide (20 < kd) = true := decide_eq_true h2
      clear hk
      go_enter Tryd.func80, Tryd.ntmps80
      go_wp2_with (refine wpList_boxBlk rfl 40 (.tmp 0) rfl #[.int .i64 kd, .string ow, .int .i64 nu, .int .i64 ix, .string tx] rfl ?_)
      intro w1 n1
      have F1 := Lib.hid n1.fr
      have c0 : w1.cell? ⟨w.heap.size, 0, none⟩ = some (.int .i64 kd) := n1.blk.cell 0
      clear n1
      go_wp2
      go_ret
      exact ⟨11, rfl, by rw [HOK.out]; rfl, F1.out⟩
end Go.Proofs.YtpnchdgplpdefaaDoor
