/- State: the reference's Check (written by genSbF.py). -/
import Derived.Test.YtpnchdgplpdefaaDoorSbE
namespace Go.Proofs.YtpnchdgplpdefaaDoor
open Go.RowKit Go.Shelf

set_option maxRecDepth 100000 in
set_option maxHeartbeats 4000000 in
theorem rOwned_any (k : Nat) (u : Usa) (w : World) (hk : 1 ≤ k ∧ k ≤ 20) (hu : usaL[k]? = some u) : Calls Tryd.prog 97 #[.int .i64 (k : Int)] w (SameW w (.bool u.owner)) := by
  match k, hk with
  | 1, _ =>
    obtain rfl := Option.some.inj hu
    go_enter Tryd.func97, Tryd.ntmps97
    go_wp2
    go_ret
    exact ⟨rfl, rfl⟩
  | 2, _ =>
    obtain rfl := Option.some.inj hu
    go_enter Tryd.func97, Tryd.ntmps97
    go_wp2
    go_ret
    exact ⟨rfl, rfl⟩
  | 3, _ =>
    obtain rfl := Option.some.inj hu
    go_enter Tryd.func97, Tryd.ntmps97
    go_wp2
    go_ret
    exact ⟨rfl, rfl⟩
  | 4, _ =>
    obtain rfl := Option.some.inj hu
    go_enter Tryd.func97, Tryd.ntmps97
    go_wp2
    go_ret
    exact ⟨rfl, rfl⟩
  | 5, _ =>
    obtain rfl := Option.some.inj hu
    go_enter Tryd.func97, Tryd.ntmps97
    go_wp2
    go_ret
    exact ⟨rfl, rfl⟩
  | 6, _ =>
    obtain rfl := Option.some.inj hu
    go_enter Tryd.func97, Tryd.ntmps97
    go_wp2
    go_ret
    exact ⟨rfl, rfl⟩
  | 7, _ =>
    obtain rfl := Option.some.inj hu
    go_enter Tryd.func97, Tryd.ntmps97
    go_wp2
    go_ret
    exact ⟨rfl, rfl⟩
  | 8, _ =>
    obtain rfl := Option.some.inj hu
    go_enter Tryd.func97, Tryd.ntmps97
    go_wp2
    go_ret
    exact ⟨rfl, rfl⟩
  | 9, _ =>
    obtain rfl := Option.some.inj hu
    go_enter Tryd.func97, Tryd.ntmps97
    go_wp2
    go_ret
    exact ⟨rfl, rfl⟩
  | 10, _ =>
    obtain rfl := Option.some.inj hu
    go_enter Tryd.func97, Tryd.ntmps97
    go_wp2
    go_ret
    exact ⟨rfl, rfl⟩
  | 11, _ =>
    obtain rfl := Option.some.inj hu
    go_enter Tryd.func97, Tryd.ntmps97
    go_wp2
    go_ret
    exact ⟨rfl, rfl⟩
  | 12, _ =>
    obtain rfl := Option.some.inj hu
    go_enter Tryd.func97, Tryd.ntmps97
    go_wp2
    go_ret
    exact ⟨rfl, rfl⟩
  | 13, _ =>
    obtain rfl := Option.some.inj hu
    go_enter Tryd.func97, Tryd.ntmps97
    go_wp2
    go_ret
    exact ⟨rfl, rfl⟩
  | 14, _ =>
    obtain rfl := Option.some.inj hu
    go_enter Tryd.func97, Tryd.ntmps97
    go_wp2
    go_ret
    exact ⟨rfl, rfl⟩
  | 15, _ =>
    obtain rfl := Option.some.inj hu
    go_enter Tryd.func97, Tryd.ntmps97
    go_wp2
    go_ret
    exact ⟨rfl, rfl⟩
  | 16, _ =>
    obtain rfl := Option.some.inj hu
    go_enter Tryd.func97, Tryd.ntmps97
    go_wp2
    go_ret
    exact ⟨rfl, rfl⟩
  | 17, _ =>
    obtain rfl := Option.some.inj hu
    go_enter Tryd.func97, Tryd.ntmps97
    go_wp2
    go_ret
    exact ⟨rfl, rfl⟩
  | 18, _ =>
    obtain rfl := Option.some.inj hu
    go_enter Tryd.func97, Tryd.ntmps97
    go_wp2
    go_ret
    exact ⟨rfl, rfl⟩
  | 19, _ =>
    obtain rfl := Option.some.inj hu
    go_enter Tryd.func97, Tryd.ntmps97
    go_wp2
    go_ret
    exact ⟨rfl, rfl⟩
  | 20, _ =>
    obtain rfl := Option.some.inj hu
    go_enter Tryd.func97, Tryd.ntmps97
    go_wp2
    go_ret
    exact ⟨rfl, rfl⟩
  | k + 21, h => omega
set_option maxRecDepth 100000 in
set_option maxHeartbeats 4000000 in
theorem rNumbered_any (k : Nat) (u : Usa) (w : World) (hk : 1 ≤ k ∧ k ≤ 20) (hu : usaL[k]? = some u) : Calls Tryd.prog 99 #[.int .i64 (k : Int)] w (SameW w (.bool u.number)) := by
  match k, hk with
  | 1, _ =>
    obtain rfl := Option.some.inj hu
    go_enter Tryd.func99, Tryd.ntmps99
    go_wp2
    go_ret
    exact ⟨rfl, rfl⟩
  | 2, _ =>
    obtain rfl := Option.some.inj hu
    go_enter Tryd.func99, Tryd.ntmps99
    go_wp2
    go_ret
    exact ⟨rfl, rfl⟩
  | 3, _ =>
    obtain rfl := Option.some.inj hu
    go_enter Tryd.func99, Tryd.ntmps99
    go_wp2
    go_ret
    exact ⟨rfl, rfl⟩
  | 4, _ =>
    obtain rfl := Option.some.inj hu
    go_enter Tryd.func99, Tryd.ntmps99
    go_wp2
    go_ret
    exact ⟨rfl, rfl⟩
  | 5, _ =>
    obtain rfl := Option.some.inj hu
    go_enter Tryd.func99, Tryd.ntmps99
    go_wp2
    go_ret
    exact ⟨rfl, rfl⟩
  | 6, _ =>
    obtain rfl := Option.some.inj hu
    go_enter Tryd.func99, Tryd.ntmps99
    go_wp2
    go_ret
    exact ⟨rfl, rfl⟩
  | 7, _ =>
    obtain rfl := Option.some.inj hu
    go_enter Tryd.func99, Tryd.ntmps99
    go_wp2
    go_ret
    exact ⟨rfl, rfl⟩
  | 8, _ =>
    obtain rfl := Option.some.inj hu
    go_enter Tryd.func99, Tryd.ntmps99
    go_wp2
    go_ret
    exact ⟨rfl, rfl⟩
  | 9, _ =>
    obtain rfl := Option.some.inj hu
    go_enter Tryd.func99, Tryd.ntmps99
    go_wp2
    go_ret
    exact ⟨rfl, rfl⟩
  | 10, _ =>
    obtain rfl := Option.some.inj hu
    go_enter Tryd.func99, Tryd.ntmps99
    go_wp2
    go_ret
    exact ⟨rfl, rfl⟩
  | 11, _ =>
    obtain rfl := Option.some.inj hu
    go_enter Tryd.func99, Tryd.ntmps99
    go_wp2
    go_ret
    exact ⟨rfl, rfl⟩
  | 12, _ =>
    obtain rfl := Option.some.inj hu
    go_enter Tryd.func99, Tryd.ntmps99
    go_wp2
    go_ret
    exact ⟨rfl, rfl⟩
  | 13, _ =>
    obtain rfl := Option.some.inj hu
    go_enter Tryd.func99, Tryd.ntmps99
    go_wp2
    go_ret
    exact ⟨rfl, rfl⟩
  | 14, _ =>
    obtain rfl := Option.some.inj hu
    go_enter Tryd.func99, Tryd.ntmps99
    go_wp2
    go_ret
    exact ⟨rfl, rfl⟩
  | 15, _ =>
    obtain rfl := Option.some.inj hu
    go_enter Tryd.func99, Tryd.ntmps99
    go_wp2
    go_ret
    exact ⟨rfl, rfl⟩
  | 16, _ =>
    obtain rfl := Option.some.inj hu
    go_enter Tryd.func99, Tryd.ntmps99
    go_wp2
    go_ret
    exact ⟨rfl, rfl⟩
  | 17, _ =>
    obtain rfl := Option.some.inj hu
    go_enter Tryd.func99, Tryd.ntmps99
    go_wp2
    go_ret
    exact ⟨rfl, rfl⟩
  | 18, _ =>
    obtain rfl := Option.some.inj hu
    go_enter Tryd.func99, Tryd.ntmps99
    go_wp2
    go_ret
    exact ⟨rfl, rfl⟩
  | 19, _ =>
    obtain rfl := Option.some.inj hu
    go_enter Tryd.func99, Tryd.ntmps99
    go_wp2
    go_ret
    exact ⟨rfl, rfl⟩
  | 20, _ =>
    obtain rfl := Option.some.inj hu
    go_enter Tryd.func99, Tryd.ntmps99
    go_wp2
    go_ret
    exact ⟨rfl, rfl⟩
  | k + 21, h => omega
set_option maxRecDepth 100000 in
set_option maxHeartbeats 4000000 in
theorem rTexted_any (k : Nat) (u : Usa) (w : World) (hk : 1 ≤ k ∧ k ≤ 20) (hu : usaL[k]? = some u) : Calls Tryd.prog 101 #[.int .i64 (k : Int)] w (SameW w (.bool u.text)) := by
  match k, hk with
  | 1, _ =>
    obtain rfl := Option.some.inj hu
    go_enter Tryd.func101, Tryd.ntmps101
    go_wp2
    go_ret
    exact ⟨rfl, rfl⟩
  | 2, _ =>
    obtain rfl := Option.some.inj hu
    go_enter Tryd.func101, Tryd.ntmps101
    go_wp2
    go_ret
    exact ⟨rfl, rfl⟩
  | 3, _ =>
    obtain rfl := Option.some.inj hu
    go_enter Tryd.func101, Tryd.ntmps101
    go_wp2
    go_ret
    exact ⟨rfl, rfl⟩
  | 4, _ =>
    obtain rfl := Option.some.inj hu
    go_enter Tryd.func101, Tryd.ntmps101
    go_wp2
    go_ret
    exact ⟨rfl, rfl⟩
  | 5, _ =>
    obtain rfl := Option.some.inj hu
    go_enter Tryd.func101, Tryd.ntmps101
    go_wp2
    go_ret
    exact ⟨rfl, rfl⟩
  | 6, _ =>
    obtain rfl := Option.some.inj hu
    go_enter Tryd.func101, Tryd.ntmps101
    go_wp2
    go_ret
    exact ⟨rfl, rfl⟩
  | 7, _ =>
    obtain rfl := Option.some.inj hu
    go_enter Tryd.func101, Tryd.ntmps101
    go_wp2
    go_ret
    exact ⟨rfl, rfl⟩
  | 8, _ =>
    obtain rfl := Option.some.inj hu
    go_enter Tryd.func101, Tryd.ntmps101
    go_wp2
    go_ret
    exact ⟨rfl, rfl⟩
  | 9, _ =>
    obtain rfl := Option.some.inj hu
    go_enter Tryd.func101, Tryd.ntmps101
    go_wp2
    go_ret
    exact ⟨rfl, rfl⟩
  | 10, _ =>
    obtain rfl := Option.some.inj hu
    go_enter Tryd.func101, Tryd.ntmps101
    go_wp2
    go_ret
    exact ⟨rfl, rfl⟩
  | 11, _ =>
    obtain rfl := Option.some.inj hu
    go_enter Tryd.func101, Tryd.ntmps101
    go_wp2
    go_ret
    exact ⟨rfl, rfl⟩
  | 12, _ =>
    obtain rfl := Option.some.inj hu
    go_enter Tryd.func101, Tryd.ntmps101
    go_wp2
    go_ret
    exact ⟨rfl, rfl⟩
  | 13, _ =>
    obtain rfl := Option.some.inj hu
    go_enter Tryd.func101, Tryd.ntmps101
    go_wp2
    go_ret
    exact ⟨rfl, rfl⟩
  | 14, _ =>
    obtain rfl := Option.some.inj hu
    go_enter Tryd.func101, Tryd.ntmps101
    go_wp2
    go_ret
    exact ⟨rfl, rfl⟩
  | 15, _ =>
    obtain rfl := Option.some.inj hu
    go_enter Tryd.func101, Tryd.ntmps101
    go_wp2
    go_ret
    exact ⟨rfl, rfl⟩
  | 16, _ =>
    obtain rfl := Option.some.inj hu
    go_enter Tryd.func101, Tryd.ntmps101
    go_wp2
    go_ret
    exact ⟨rfl, rfl⟩
  | 17, _ =>
    obtain rfl := Option.some.inj hu
    go_enter Tryd.func101, Tryd.ntmps101
    go_wp2
    go_ret
    exact ⟨rfl, rfl⟩
  | 18, _ =>
    obtain rfl := Option.some.inj hu
    go_enter Tryd.func101, Tryd.ntmps101
    go_wp2
    go_ret
    exact ⟨rfl, rfl⟩
  | 19, _ =>
    obtain rfl := Option.some.inj hu
    go_enter Tryd.func101, Tryd.ntmps101
    go_wp2
    go_ret
    exact ⟨rfl, rfl⟩
  | 20, _ =>
    obtain rfl := Option.some.inj hu
    go_enter Tryd.func101, Tryd.ntmps101
    go_wp2
    go_ret
    exact ⟨rfl, rfl⟩
  | k + 21, h => omega
set_option maxRecDepth 100000 in
set_option maxHeartbeats 4000000 in
theorem rMost_any (k : Nat) (u : Usa) (w : World) (hk : 1 ≤ k ∧ k ≤ 20) (hu : usaL[k]? = some u) : Calls Tryd.prog 100 #[.int .i64 (k : Int)] w (SameW w (.int .i64 (if u.index = true then u.most else -1))) := by
  match k, hk with
  | 1, _ =>
    obtain rfl := Option.some.inj hu
    go_enter Tryd.func100, Tryd.ntmps100
    go_wp2
    go_ret
    exact ⟨rfl, rfl⟩
  | 2, _ =>
    obtain rfl := Option.some.inj hu
    go_enter Tryd.func100, Tryd.ntmps100
    go_wp2
    go_ret
    exact ⟨rfl, rfl⟩
  | 3, _ =>
    obtain rfl := Option.some.inj hu
    go_enter Tryd.func100, Tryd.ntmps100
    go_wp2
    go_ret
    exact ⟨rfl, rfl⟩
  | 4, _ =>
    obtain rfl := Option.some.inj hu
    go_enter Tryd.func100, Tryd.ntmps100
    go_wp2
    go_ret
    exact ⟨rfl, rfl⟩
  | 5, _ =>
    obtain rfl := Option.some.inj hu
    go_enter Tryd.func100, Tryd.ntmps100
    go_wp2
    go_ret
    exact ⟨rfl, rfl⟩
  | 6, _ =>
    obtain rfl := Option.some.inj hu
    go_enter Tryd.func100, Tryd.ntmps100
    go_wp2
    go_ret
    exact ⟨rfl, rfl⟩
  | 7, _ =>
    obtain rfl := Option.some.inj hu
    go_enter Tryd.func100, Tryd.ntmps100
    go_wp2
    go_ret
    exact ⟨rfl, rfl⟩
  | 8, _ =>
    obtain rfl := Option.some.inj hu
    go_enter Tryd.func100, Tryd.ntmps100
    go_wp2
    go_ret
    exact ⟨rfl, rfl⟩
  | 9, _ =>
    obtain rfl := Option.some.inj hu
    go_enter Tryd.func100, Tryd.ntmps100
    go_wp2
    go_ret
    exact ⟨rfl, rfl⟩
  | 10, _ =>
    obtain rfl := Option.some.inj hu
    go_enter Tryd.func100, Tryd.ntmps100
    go_wp2
    go_ret
    exact ⟨rfl, rfl⟩
  | 11, _ =>
    obtain rfl := Option.some.inj hu
    go_enter Tryd.func100, Tryd.ntmps100
    go_wp2
    go_ret
    exact ⟨rfl, rfl⟩
  | 12, _ =>
    obtain rfl := Option.some.inj hu
    go_enter Tryd.func100, Tryd.ntmps100
    go_wp2
    go_ret
    exact ⟨rfl, rfl⟩
  | 13, _ =>
    obtain rfl := Option.some.inj hu
    go_enter Tryd.func100, Tryd.ntmps100
    go_wp2
    go_ret
    exact ⟨rfl, rfl⟩
  | 14, _ =>
    obtain rfl := Option.some.inj hu
    go_enter Tryd.func100, Tryd.ntmps100
    go_wp2
    go_ret
    exact ⟨rfl, rfl⟩
  | 15, _ =>
    obtain rfl := Option.some.inj hu
    go_enter Tryd.func100, Tryd.ntmps100
    go_wp2
    go_ret
    exact ⟨rfl, rfl⟩
  | 16, _ =>
    obtain rfl := Option.some.inj hu
    go_enter Tryd.func100, Tryd.ntmps100
    go_wp2
    go_ret
    exact ⟨rfl, rfl⟩
  | 17, _ =>
    obtain rfl := Option.some.inj hu
    go_enter Tryd.func100, Tryd.ntmps100
    go_wp2
    go_ret
    exact ⟨rfl, rfl⟩
  | 18, _ =>
    obtain rfl := Option.some.inj hu
    go_enter Tryd.func100, Tryd.ntmps100
    go_wp2
    go_ret
    exact ⟨rfl, rfl⟩
  | 19, _ =>
    obtain rfl := Option.some.inj hu
    go_enter Tryd.func100, Tryd.ntmps100
    go_wp2
    go_ret
    exact ⟨rfl, rfl⟩
  | 20, _ =>
    obtain rfl := Option.some.inj hu
    go_enter Tryd.func100, Tryd.ntmps100
    go_wp2
    go_ret
    exact ⟨rfl, rfl⟩
  | k + 21, h => omega

set_option maxRecDepth 100000 in
set_option maxHeartbeats 2000000 in
theorem rWord_any (s : ByteArray) (w : World) (hs : s.size ≤ 1099511627776) : Calls Tryd.prog 110 #[.string s] w (SameW w (.bool (wordO s))) := by
  have HS := Lib.hid hs
  obtain ⟨R, hR⟩ : ∃ R, R = wordO s := ⟨_, rfl⟩
  rw [← hR]
  have HR : Hid (R = (!s.toList.isEmpty && decide (s.size ≤ 32) && s.toList.all wordB)) := hR
  have HAT : Hid (∀ i, i < s.size → ∃ b, ∃ h : i < s.size, s.toList[i]? = some b ∧ s[i] = b) := fun i hi => by
    have h2 : s.toList[i]? = some (s.toList[i]'(by rw [toList_size]; exact hi)) := List.getElem?_eq_getElem _
    obtain ⟨h3, h4⟩ := str_at h2
    exact ⟨_, h3, h2, h4⟩
  clear hR hs
  go_enter Tryd.func110, Tryd.ntmps110
  go_wp2
  go_loopw [3] (fun i wr => ∃ k : Nat, k ≤ s.size ∧ (∀ b ∈ s.toList.take k, wordB b = true) ∧ i = .int .i64 k ∧ w = wr) (fun i _ => s.size - (intOf i).toNat)
  case atStart => exact ⟨0, by omega, by simp, rfl, rfl⟩
  case round =>
    obtain ⟨k, hk, hall, rfl, rfl⟩ := hrel
    have HA := Lib.hid hall
    have nk : k ≤ 1099511627776 := by have := HS.out; omega
    clear hall
    by_cases hlt : k < s.size
    · have hI : (k : Int) < (s.size : Int) := by omega
      have hI0 : (0 : Int) ≤ (k : Int) := by omega
      obtain ⟨b, h1, h2, h3⟩ := HAT.out k hlt
      have H2 := Lib.hid h2
      clear h2
      have hno : ∀ h : wordB b = false, R = false := fun h => by
        have : s.toList.all wordB = false := by
          rw [List.all_eq_false]
          exact ⟨b, List.mem_of_getElem? H2.out, by rw [h]; simp⟩
        rw [HR.out, this, Bool.and_false]
      have HNO := Lib.hid hno
      clear hno
      by_cases g1 : 33 ≤ b.toNat
      · have u1 : decide ((b.toNat : Int) < 33) = false := decide_eq_false (by omega)
        have u1' : ¬ (b.toNat : Int) < 33 := by omega
        by_cases g2 : b.toNat ≤ 126
        · have u2 : decide ((126 : Int) < (b.toNat : Int)) = false := decide_eq_false (by omega)
          have u2' : ¬ (126 : Int) < (b.toNat : Int) := by omega
          by_cases g3 : b.toNat = 47
          · have u3 : ((b.toNat : Int) == 47) = true := by rw [beq_iff_eq]; omega
            obtain rfl : R = false := HNO.out (by simp [wordB, g3])
            clear g1 g2 g3
            go_wp2
            go_ret
            exact ⟨rfl, rfl⟩
          · have u3 : ((b.toNat : Int) == 47) = false := by rw [beq_eq_false_iff_ne]; omega
            have HB : Hid (wordB b = true) := by simp [Hid, wordB, g1, g2, g3]
            clear g1 g2 g3 HNO
            go_wp2
            go_roundw
            case rel => exact ⟨k + 1, by omega, fun x hx => by
                rw [List.take_add_one, H2.out, Option.toList_some, List.mem_append, List.mem_singleton] at hx
                rcases hx with hx | rfl
                · exact HA.out x hx
                · exact HB.out, by go_num, trivial⟩
            case measure => simp [intOf]; omega
        · have u2 : decide ((126 : Int) < (b.toNat : Int)) = true := decide_eq_true (by omega)
          have u2' : (126 : Int) < (b.toNat : Int) := by omega
          obtain rfl : R = false := HNO.out (by simp [wordB, g2])
          clear g1 g2
          go_wp2
          go_ret
          exact ⟨rfl, rfl⟩
      · have u1 : decide ((b.toNat : Int) < 33) = true := decide_eq_true (by omega)
        have u1' : (b.toNat : Int) < 33 := by omega
        obtain rfl : R = false := HNO.out (by simp [wordB, g1])
        clear g1
        go_wp2
        go_ret
        exact ⟨rfl, rfl⟩
    · obtain rfl : k = s.size := by omega
      have hall : s.toList.all wordB = true := by
        rw [List.all_eq_true]
        have h := HA.out
        rw [List.take_of_length_le (by rw [toList_size]; omega)] at h
        exact h
      have hR2 : R = (!s.toList.isEmpty && decide (s.size ≤ 32)) := by rw [HR.out, hall, Bool.and_true]
      clear hlt hall HR
      by_cases h0 : s.size = 0
      · have he : s.toList.isEmpty = true := by
          rw [List.isEmpty_iff]
          exact List.length_eq_zero_iff.1 (by rw [toList_size]; exact h0)
        obtain rfl : R = false := by rw [hR2, he]; rfl
        have t1 : decide ((1 : Int) ≤ (s.size : Int)) = false := decide_eq_false (by omega)
        have t1' : ¬ (1 : Int) ≤ (s.size : Int) := by omega
        have t1'' : ¬ 1 ≤ s.size := by omega
        clear hR2 he
        go_wp2
        go_ret
        exact ⟨rfl, rfl⟩
      · have he : s.toList.isEmpty = false := by
          rw [List.isEmpty_eq_false_iff]
          intro e
          have := congrArg List.length e
          rw [toList_size] at this
          exact h0 (by simpa using this)
        have t1 : decide ((1 : Int) ≤ (s.size : Int)) = true := decide_eq_true (by omega)
        have t1' : (1 : Int) ≤ (s.size : Int) := by omega
        have t1'' : 1 ≤ s.size := by omega
        by_cases h32 : s.size ≤ 32
        · obtain rfl : R = true := by rw [hR2, he, decide_eq_true h32]; rfl
          have t2 : decide ((s.size : Int) ≤ 32) = true := decide_eq_true (by omega)
          clear hR2 he h0
          go_wp2
          go_ret
          exact ⟨rfl, rfl⟩
        · obtain rfl : R = false := by rw [hR2, he, decide_eq_false h32]; rfl
          have t2 : decide ((s.size : Int) ≤ 32) = false := decide_eq_false (by omega)
          clear hR2 he h0
          go_wp2
          go_ret
          exact ⟨rfl, rfl⟩
set_option maxRecDepth 100000 in
set_option maxHeartbeats 8000000 in
theorem rCheck_1000 (k : Nat) (ow : ByteArray) (nu ix : Int) (tx wd : ByteArray) (mo : Int) (w : World) (hk : 1 ≤ k ∧ k ≤ 20) (hu : usaL[k]? = some ⟨wd, true, false, false, false, mo⟩) (ho : ow.size ≤ 1099511627776) (ht : tx.size ≤ 1099511627776) (_hmo : 0 ≤ mo) (hmo0 : mo = 0) :
    Calls Tryd.prog 80 #[.agg #[.int .i64 (k : Int), .string ow, .int .i64 nu, .int .i64 ix, .string tx]] w (Checked w ⟨(k : Int), ow, nu, ix, tx⟩) := by
  have HOK : Hid (okNm ⟨(k : Int), ow, nu, ix, tx⟩ = okUs ⟨wd, true, false, false, false, mo⟩ ⟨(k : Int), ow, nu, ix, tx⟩) := by
    simp only [Hid, okNm, Int.toNat_natCast, hu]
    rw [decide_eq_true (show (1 : Int) ≤ (k : Int) by omega), decide_eq_true (show (k : Int) ≤ 20 by omega)]
    rfl
  have HOW := Lib.hid ho
  have HTX := Lib.hid ht
  have CO : Hid (∀ w, Calls Tryd.prog 97 #[.int .i64 (k : Int)] w (SameW w (.bool true))) := fun w => rOwned_any k _ w hk hu
  have CN : Hid (∀ w, Calls Tryd.prog 99 #[.int .i64 (k : Int)] w (SameW w (.bool false))) := fun w => rNumbered_any k _ w hk hu
  have CT : Hid (∀ w, Calls Tryd.prog 101 #[.int .i64 (k : Int)] w (SameW w (.bool false))) := fun w => rTexted_any k _ w hk hu
  obtain ⟨mq, hmq⟩ : ∃ mq : Int, mq = (if false = true then mo else -1) := ⟨_, rfl⟩
  have CM : Hid (∀ w, Calls Tryd.prog 100 #[.int .i64 (k : Int)] w (SameW w (.int .i64 mq))) := fun w => by rw [hmq]; exact rMost_any k _ w hk hu
  have hmq2 : mq = -1 := by rw [hmq]; simp
  have tq : decide (mq < 0) = true := decide_eq_true (by omega)
  have HMX : Hid (max mq 0 = mo) := by simp only [Hid]; omega
  have k1 : decide ((k : Int) < 1) = false := decide_eq_false (by omega)
  have k1' : ¬ (k : Int) < 1 := by omega
  have k2 : decide ((20 : Int) < (k : Int)) = false := decide_eq_false (by omega)
  have k2' : ¬ (20 : Int) < (k : Int) := by omega
  clear hk hu ho ht hmq hmq2
  go_enter Tryd.func80, Tryd.ntmps80
  go_wp2_with (refine wpList_boxBlk rfl 40 (.tmp 0) rfl #[.int .i64 (k : Int), .string ow, .int .i64 nu, .int .i64 ix, .string tx] rfl ?_)
  intro w1 n1
  have F1 := Lib.hid n1.fr
  have NB := Lib.hid n1.blk
  have c0 : w1.cell? ⟨w.heap.size, 0, none⟩ = some (.int .i64 (k : Int)) := n1.blk.cell 0
  have c1 : w1.cell? ⟨w.heap.size, 1, none⟩ = some (.string ow) := n1.blk.cell 1
  have c2 : w1.cell? ⟨w.heap.size, 2, none⟩ = some (.int .i64 nu) := n1.blk.cell 2
  have c3 : w1.cell? ⟨w.heap.size, 3, none⟩ = some (.int .i64 ix) := n1.blk.cell 3
  have c4 : w1.cell? ⟨w.heap.size, 4, none⟩ = some (.string tx) := n1.blk.cell 4
  clear n1
  generalize w.heap.size = gb at *
  go_wp2_with fail
  refine (CO.out _).mono ?_
  rintro e w9 ⟨rfl, rfl⟩
  go_wp2_with fail
  refine (CN.out _).mono ?_
  rintro e w9 ⟨rfl, rfl⟩
  by_cases e_nu : nu = 0
  · have He_nu := Lib.hid e_nu
    have t_e_nu := beq0 e_nu
    clear e_nu
    go_wp2_with fail
    refine (CM.out _).mono ?_
    rintro e w9 ⟨rfl, rfl⟩
    by_cases e_ix : ix = 0
    · have He_ix := Lib.hid e_ix
      have t_e_ix := beq0 e_ix
      clear e_ix
      go_wp2_with fail
      refine (CT.out _).mono ?_
      rintro e w9 ⟨rfl, rfl⟩
      cases e_tx : tx.toList.isEmpty
      · have He_tx := Lib.hid e_tx
        go_wp2
        go_ret
        refine ⟨_, rfl, ?_, F1.out⟩
        rw [HOK.out]
        simp [okUs, He_tx.out]
      · have He_tx := Lib.hid e_tx
        go_wp2_with fail
        refine (CO.out _).mono ?_
        rintro e w9 ⟨rfl, rfl⟩
        have K1 := Lib.hid (rValid_any ow w1 HOW.out)
        obtain ⟨v1, hv1⟩ : ∃ v1, validO ow = v1 := ⟨_, rfl⟩
        have Hv1 := Lib.hid hv1
        rw [hv1] at K1
        clear hv1
        go_wp2_with fail
        refine K1.out.mono ?_
        rintro e w4 ⟨rfl, f4⟩
        have F4 := Lib.hid (F1.out.trans f4)
        have n2 := Lib.hid (f4.cellSome c2 (fun x => x))
        have n3 := Lib.hid (f4.cellSome c3 (fun x => x))
        have n4 := Lib.hid (f4.cellSome c4 (fun x => x))
        clear f4 c0 c1 c2 c3 c4
        cases v1
        · go_wp2
          go_ret
          refine ⟨_, rfl, ?_, F4.out⟩
          rw [HOK.out]
          have hh := Hv1.out
          simp [okUs, hh]
        · have u0 : decide (nu < 0) = false := decide_eq_false (by have := He_nu.out; omega)
          have u1 : decide (1073741824 < nu) = false := decide_eq_false (by have := He_nu.out; omega)
          have v0 : decide (ix < 0) = false := decide_eq_false (by have := He_ix.out; omega)
          have v1 : decide (mo < ix) = false := decide_eq_false (by have := He_ix.out; omega)
          go_upto_region 8 with fail
          refine wp_region_st 22 Nothing [Is (.pointer (some ⟨gb, 2, none⟩)), Is (.int .i64 nu), Is (.bool false), Is (.bool false), Is (.pointer (some ⟨gb, 2, none⟩)), Is (.int .i64 nu), Is (.bool false), Is (.bool false), Is (.bool false), Is (.pointer (some ⟨gb, 3, none⟩)), Is (.int .i64 ix), Is (.bool false), Is (.bool false), Is (.bool false), Is (.pointer (some ⟨gb, 3, none⟩)), Is (.int .i64 ix), Is (.int .i64 (k : Int)), Is (.int .i64 mq), Is (.int .i64 mo), Is (.bool false), Is (.bool false), Is (.bool false)] [] (fun _ => True) (fun _ _ => false) (by kernel_rfl) (by kernel_rfl) (by kernel_rfl) (by kernel_rfl) ⟨Is.stable _, Is.stable _, Is.stable _, Is.stable _, Is.stable _, Is.stable _, Is.stable _, Is.stable _, Is.stable _, Is.stable _, Is.stable _, Is.stable _, Is.stable _, Is.stable _, Is.stable _, Is.stable _, Is.stable _, Is.stable _, Is.stable _, Is.stable _, Is.stable _, Is.stable _, trivial⟩ trivial (fun _ _ _ _ h => h) trivial ?_ ?_
          · refine ⟨?a11_0, ?a11_1, ?a11_2, ?a11_3, ?a11_4, ?a11_5, ?a11_6, ?a11_7, ?a11_8, ?a11_9, ?a11_10, ?a11_11, ?a11_12, ?a11_13, ?a11_14, ?a11_15, ?a11_16, ?a11_17, ?a11_18, ?a11_19, ?a11_20, ?a11_21, trivial⟩
            all_goals intro u w' d hf hR k1 k0 kM
            all_goals simp only [List.take_succ_cons, List.take_zero, List.map_cons, List.map_nil, puts, Act.put, List.setIfInBounds_toArray, List.set_cons_zero, List.set_cons_succ, Nat.reduceAdd, Nat.zero_add]
            case a11_1 =>
              simp only [show u 0 = _ from hR 0 (by kernel_rfl)]
              clear hR k1 k0 kM
              refine .inl ⟨by kernel_rfl, ?_⟩
              have q := hf.cellSome (n2.out) (fun x => x)
              go_simp
              exact ⟨_, rfl, Fr.refl _ _, rfl, trivial⟩
            case' a11_2 => simp only [show u 1 = _ from hR 1 (by kernel_rfl)]
            case' a11_3 => simp only [show u 2 = _ from hR 2 (by kernel_rfl)]
            case' a11_4 => simp only [show u 3 = _ from hR 3 (by kernel_rfl)]
            case a11_5 =>
              simp only [show u 4 = _ from hR 4 (by kernel_rfl), show u 3 = _ from hR 3 (by kernel_rfl)]
              clear hR k1 k0 kM
              refine .inl ⟨by kernel_rfl, ?_⟩
              have q := hf.cellSome (n2.out) (fun x => x)
              go_simp
              exact ⟨_, rfl, Fr.refl _ _, rfl, trivial⟩
            case' a11_6 => simp only [show u 5 = _ from hR 5 (by kernel_rfl), show u 3 = _ from hR 3 (by kernel_rfl)]
            case' a11_7 => simp only [show u 3 = _ from hR 3 (by kernel_rfl), show u 6 = _ from hR 6 (by kernel_rfl)]
            case' a11_8 => simp only [show u 7 = _ from hR 7 (by kernel_rfl)]
            case' a11_9 => simp only [show u 8 = _ from hR 8 (by kernel_rfl)]
            case a11_10 =>
              simp only [show u 9 = _ from hR 9 (by kernel_rfl), show u 8 = _ from hR 8 (by kernel_rfl)]
              clear hR k1 k0 kM
              refine .inl ⟨by kernel_rfl, ?_⟩
              have q := hf.cellSome (n3.out) (fun x => x)
              go_simp
              exact ⟨_, rfl, Fr.refl _ _, rfl, trivial⟩
            case' a11_11 => simp only [show u 10 = _ from hR 10 (by kernel_rfl), show u 8 = _ from hR 8 (by kernel_rfl)]
            case' a11_12 => simp only [show u 8 = _ from hR 8 (by kernel_rfl), show u 11 = _ from hR 11 (by kernel_rfl)]
            case' a11_13 => simp only [show u 12 = _ from hR 12 (by kernel_rfl)]
            case' a11_14 => simp only [show u 13 = _ from hR 13 (by kernel_rfl)]
            case a11_15 =>
              simp only [show u 14 = _ from hR 14 (by kernel_rfl), show u 13 = _ from hR 13 (by kernel_rfl)]
              clear hR k1 k0 kM
              refine .inl ⟨by kernel_rfl, ?_⟩
              have q := hf.cellSome (n3.out) (fun x => x)
              go_simp
              exact ⟨_, rfl, Fr.refl _ _, rfl, trivial⟩
            case' a11_16 => simp only [show u 13 = _ from hR 13 (by kernel_rfl)]
            case a11_17 =>
              simp only [show u 16 = _ from hR 16 (by kernel_rfl), show u 13 = _ from hR 13 (by kernel_rfl)]
              clear hR k1 k0 kM
              refine .inl ⟨by kernel_rfl, ?_⟩
              go_simp
              refine (CM.out _).mono ?_
              rintro e w9 ⟨rfl, rfl⟩
              exact ⟨_, rfl, Fr.refl _ _, rfl, trivial⟩
            case a11_18 =>
              simp only [show u 17 = _ from hR 17 (by kernel_rfl), show u 13 = _ from hR 13 (by kernel_rfl)]
              clear hR k1 k0 kM
              refine .inl ⟨by kernel_rfl, ?_⟩
              have q := HMX.out
              go_simp
              exact ⟨_, rfl, Fr.refl _ _, rfl, trivial⟩
            case' a11_19 => simp only [show u 15 = _ from hR 15 (by kernel_rfl), show u 18 = _ from hR 18 (by kernel_rfl), show u 13 = _ from hR 13 (by kernel_rfl)]
            case' a11_20 => simp only [show u 13 = _ from hR 13 (by kernel_rfl), show u 19 = _ from hR 19 (by kernel_rfl)]
            case' a11_21 => simp only [show u 20 = _ from hR 20 (by kernel_rfl)]
            all_goals
              clear hR k1 k0 kM
              refine .inl ⟨by kernel_rfl, ?_⟩
              go_simp
              exact ⟨_, rfl, Fr.refl _ _, rfl, trivial⟩
          · intro u w' hf hR kM
            have k21 : u 21 = _ := hR 21 (by omega)
            clear hR kM
            simp only [List.take_succ_cons, List.take_zero, List.map_cons, List.map_nil, puts, Act.put, List.setIfInBounds_toArray, List.set_cons_zero, List.set_cons_succ, List.drop_succ_cons, List.drop_zero, Nat.reduceAdd, Nat.zero_add, k21]
            have FA := Lib.hid (F4.out.trans hf)
            have m4 := hf.cellSome n4.out (fun x => x)
            clear hf k21 n2 n3 n4
            go_wp2_with fail
            refine (CT.out _).mono ?_
            rintro e w9 ⟨rfl, rfl⟩
            go_wp2
            go_ret
            refine ⟨_, rfl, ?_, FA.out⟩
            rw [HOK.out]
            rw [okUs]
            simp only [He_nu.out, He_ix.out, He_tx.out, Hv1.out]
            simp
    · have He_ix := Lib.hid e_ix
      have t_e_ix := bne0 e_ix
      clear e_ix
      go_wp2
      go_ret
      refine ⟨_, rfl, ?_, F1.out⟩
      rw [HOK.out]
      simp [okUs, He_ix.out]
  · have He_nu := Lib.hid e_nu
    have t_e_nu := bne0 e_nu
    clear e_nu
    go_wp2
    go_ret
    refine ⟨_, rfl, ?_, F1.out⟩
    rw [HOK.out]
    simp [okUs, He_nu.out]
set_option maxRecDepth 100000 in
set_option maxHeartbeats 8000000 in
theorem rCheck_1010 (k : Nat) (ow : ByteArray) (nu ix : Int) (tx wd : ByteArray) (mo : Int) (w : World) (hk : 1 ≤ k ∧ k ≤ 20) (hu : usaL[k]? = some ⟨wd, true, false, true, false, mo⟩) (ho : ow.size ≤ 1099511627776) (ht : tx.size ≤ 1099511627776) (hmo : 0 ≤ mo) :
    Calls Tryd.prog 80 #[.agg #[.int .i64 (k : Int), .string ow, .int .i64 nu, .int .i64 ix, .string tx]] w (Checked w ⟨(k : Int), ow, nu, ix, tx⟩) := by
  have HOK : Hid (okNm ⟨(k : Int), ow, nu, ix, tx⟩ = okUs ⟨wd, true, false, true, false, mo⟩ ⟨(k : Int), ow, nu, ix, tx⟩) := by
    simp only [Hid, okNm, Int.toNat_natCast, hu]
    rw [decide_eq_true (show (1 : Int) ≤ (k : Int) by omega), decide_eq_true (show (k : Int) ≤ 20 by omega)]
    rfl
  have HOW := Lib.hid ho
  have HTX := Lib.hid ht
  have CO : Hid (∀ w, Calls Tryd.prog 97 #[.int .i64 (k : Int)] w (SameW w (.bool true))) := fun w => rOwned_any k _ w hk hu
  have CN : Hid (∀ w, Calls Tryd.prog 99 #[.int .i64 (k : Int)] w (SameW w (.bool false))) := fun w => rNumbered_any k _ w hk hu
  have CT : Hid (∀ w, Calls Tryd.prog 101 #[.int .i64 (k : Int)] w (SameW w (.bool false))) := fun w => rTexted_any k _ w hk hu
  obtain ⟨mq, hmq⟩ : ∃ mq : Int, mq = (if true = true then mo else -1) := ⟨_, rfl⟩
  have CM : Hid (∀ w, Calls Tryd.prog 100 #[.int .i64 (k : Int)] w (SameW w (.int .i64 mq))) := fun w => by rw [hmq]; exact rMost_any k _ w hk hu
  have hmq2 : mq = mo := by rw [hmq]; simp
  have tq : decide (mq < 0) = false := decide_eq_false (by omega)
  have HMX : Hid (max mq 0 = mo) := by simp only [Hid]; omega
  have k1 : decide ((k : Int) < 1) = false := decide_eq_false (by omega)
  have k1' : ¬ (k : Int) < 1 := by omega
  have k2 : decide ((20 : Int) < (k : Int)) = false := decide_eq_false (by omega)
  have k2' : ¬ (20 : Int) < (k : Int) := by omega
  clear hk hu ho ht hmq hmq2
  go_enter Tryd.func80, Tryd.ntmps80
  go_wp2_with (refine wpList_boxBlk rfl 40 (.tmp 0) rfl #[.int .i64 (k : Int), .string ow, .int .i64 nu, .int .i64 ix, .string tx] rfl ?_)
  intro w1 n1
  have F1 := Lib.hid n1.fr
  have NB := Lib.hid n1.blk
  have c0 : w1.cell? ⟨w.heap.size, 0, none⟩ = some (.int .i64 (k : Int)) := n1.blk.cell 0
  have c1 : w1.cell? ⟨w.heap.size, 1, none⟩ = some (.string ow) := n1.blk.cell 1
  have c2 : w1.cell? ⟨w.heap.size, 2, none⟩ = some (.int .i64 nu) := n1.blk.cell 2
  have c3 : w1.cell? ⟨w.heap.size, 3, none⟩ = some (.int .i64 ix) := n1.blk.cell 3
  have c4 : w1.cell? ⟨w.heap.size, 4, none⟩ = some (.string tx) := n1.blk.cell 4
  clear n1
  generalize w.heap.size = gb at *
  go_wp2_with fail
  refine (CO.out _).mono ?_
  rintro e w9 ⟨rfl, rfl⟩
  go_wp2_with fail
  refine (CN.out _).mono ?_
  rintro e w9 ⟨rfl, rfl⟩
  by_cases e_nu : nu = 0
  · have He_nu := Lib.hid e_nu
    have t_e_nu := beq0 e_nu
    clear e_nu
    go_wp2_with fail
    refine (CM.out _).mono ?_
    rintro e w9 ⟨rfl, rfl⟩
    go_wp2_with fail
    refine (CT.out _).mono ?_
    rintro e w9 ⟨rfl, rfl⟩
    cases e_tx : tx.toList.isEmpty
    · have He_tx := Lib.hid e_tx
      go_wp2
      go_ret
      refine ⟨_, rfl, ?_, F1.out⟩
      rw [HOK.out]
      simp [okUs, He_tx.out]
    · have He_tx := Lib.hid e_tx
      go_wp2_with fail
      refine (CO.out _).mono ?_
      rintro e w9 ⟨rfl, rfl⟩
      have K1 := Lib.hid (rValid_any ow w1 HOW.out)
      obtain ⟨v1, hv1⟩ : ∃ v1, validO ow = v1 := ⟨_, rfl⟩
      have Hv1 := Lib.hid hv1
      rw [hv1] at K1
      clear hv1
      go_wp2_with fail
      refine K1.out.mono ?_
      rintro e w4 ⟨rfl, f4⟩
      have F4 := Lib.hid (F1.out.trans f4)
      have n2 := Lib.hid (f4.cellSome c2 (fun x => x))
      have n3 := Lib.hid (f4.cellSome c3 (fun x => x))
      have n4 := Lib.hid (f4.cellSome c4 (fun x => x))
      clear f4 c0 c1 c2 c3 c4
      cases v1
      · go_wp2
        go_ret
        refine ⟨_, rfl, ?_, F4.out⟩
        rw [HOK.out]
        have hh := Hv1.out
        simp [okUs, hh]
      · have u0 : decide (nu < 0) = false := decide_eq_false (by have := He_nu.out; omega)
        have u1 : decide (1073741824 < nu) = false := decide_eq_false (by have := He_nu.out; omega)
        by_cases hi0 : ix < 0
        · have v0 : decide (ix < 0) = true := decide_eq_true hi0
          have V0 := Lib.hid hi0
          clear hi0
          go_upto_region 8 with fail
          refine wp_region_st 22 Nothing [Is (.pointer (some ⟨gb, 2, none⟩)), Is (.int .i64 nu), Is (.bool false), Is (.bool false), Is (.pointer (some ⟨gb, 2, none⟩)), Is (.int .i64 nu), Is (.bool false), Is (.bool false), Is (.bool false), Is (.pointer (some ⟨gb, 3, none⟩)), Is (.int .i64 ix), Is (.bool true), Is (.bool true), Is (.bool true), Is (undef), Is (undef), Is (undef), Is (undef), Is (undef), Is (undef), Is (.bool true), Is (.bool true)] [] (fun _ => True) (fun _ _ => false) (by kernel_rfl) (by kernel_rfl) (by kernel_rfl) (by kernel_rfl) ⟨Is.stable _, Is.stable _, Is.stable _, Is.stable _, Is.stable _, Is.stable _, Is.stable _, Is.stable _, Is.stable _, Is.stable _, Is.stable _, Is.stable _, Is.stable _, Is.stable _, Is.stable _, Is.stable _, Is.stable _, Is.stable _, Is.stable _, Is.stable _, Is.stable _, Is.stable _, trivial⟩ trivial (fun _ _ _ _ h => h) trivial ?_ ?_
          · refine ⟨?a12_0, ?a12_1, ?a12_2, ?a12_3, ?a12_4, ?a12_5, ?a12_6, ?a12_7, ?a12_8, ?a12_9, ?a12_10, ?a12_11, ?a12_12, ?a12_13, ?a12_14, ?a12_15, ?a12_16, ?a12_17, ?a12_18, ?a12_19, ?a12_20, ?a12_21, trivial⟩
            all_goals intro u w' d hf hR k1 k0 kM
            all_goals simp only [List.take_succ_cons, List.take_zero, List.map_cons, List.map_nil, puts, Act.put, List.setIfInBounds_toArray, List.set_cons_zero, List.set_cons_succ, Nat.reduceAdd, Nat.zero_add]
            case a12_1 =>
              simp only [show u 0 = _ from hR 0 (by kernel_rfl)]
              clear hR k1 k0 kM
              refine .inl ⟨by kernel_rfl, ?_⟩
              have q := hf.cellSome (n2.out) (fun x => x)
              go_simp
              exact ⟨_, rfl, Fr.refl _ _, rfl, trivial⟩
            case' a12_2 => simp only [show u 1 = _ from hR 1 (by kernel_rfl)]
            case' a12_3 => simp only [show u 2 = _ from hR 2 (by kernel_rfl)]
            case' a12_4 => simp only [show u 3 = _ from hR 3 (by kernel_rfl)]
            case a12_5 =>
              simp only [show u 4 = _ from hR 4 (by kernel_rfl), show u 3 = _ from hR 3 (by kernel_rfl)]
              clear hR k1 k0 kM
              refine .inl ⟨by kernel_rfl, ?_⟩
              have q := hf.cellSome (n2.out) (fun x => x)
              go_simp
              exact ⟨_, rfl, Fr.refl _ _, rfl, trivial⟩
            case' a12_6 => simp only [show u 5 = _ from hR 5 (by kernel_rfl), show u 3 = _ from hR 3 (by kernel_rfl)]
            case' a12_7 => simp only [show u 3 = _ from hR 3 (by kernel_rfl), show u 6 = _ from hR 6 (by kernel_rfl)]
            case' a12_8 => simp only [show u 7 = _ from hR 7 (by kernel_rfl)]
            case' a12_9 => simp only [show u 8 = _ from hR 8 (by kernel_rfl)]
            case a12_10 =>
              simp only [show u 9 = _ from hR 9 (by kernel_rfl), show u 8 = _ from hR 8 (by kernel_rfl)]
              clear hR k1 k0 kM
              refine .inl ⟨by kernel_rfl, ?_⟩
              have q := hf.cellSome (n3.out) (fun x => x)
              go_simp
              exact ⟨_, rfl, Fr.refl _ _, rfl, trivial⟩
            case' a12_11 => simp only [show u 10 = _ from hR 10 (by kernel_rfl), show u 8 = _ from hR 8 (by kernel_rfl)]
            case' a12_12 => simp only [show u 8 = _ from hR 8 (by kernel_rfl), show u 11 = _ from hR 11 (by kernel_rfl)]
            case' a12_13 => simp only [show u 12 = _ from hR 12 (by kernel_rfl)]
            case a12_14 => simp only [show u 13 = _ from hR 13 (by kernel_rfl)]; exact .inr ⟨by kernel_rfl, _, rfl, Fr.refl _ _, rfl, trivial⟩
            case a12_15 => simp only [show u 13 = _ from hR 13 (by kernel_rfl)]; exact .inr ⟨by kernel_rfl, _, rfl, Fr.refl _ _, rfl, trivial⟩
            case a12_16 => simp only [show u 13 = _ from hR 13 (by kernel_rfl)]; exact .inr ⟨by kernel_rfl, _, rfl, Fr.refl _ _, rfl, trivial⟩
            case a12_17 => simp only [show u 13 = _ from hR 13 (by kernel_rfl)]; exact .inr ⟨by kernel_rfl, _, rfl, Fr.refl _ _, rfl, trivial⟩
            case a12_18 => simp only [show u 13 = _ from hR 13 (by kernel_rfl)]; exact .inr ⟨by kernel_rfl, _, rfl, Fr.refl _ _, rfl, trivial⟩
            case a12_19 => simp only [show u 13 = _ from hR 13 (by kernel_rfl)]; exact .inr ⟨by kernel_rfl, _, rfl, Fr.refl _ _, rfl, trivial⟩
            case' a12_20 => simp only [show u 13 = _ from hR 13 (by kernel_rfl), show u 19 = _ from hR 19 (by kernel_rfl)]
            case' a12_21 => simp only [show u 20 = _ from hR 20 (by kernel_rfl)]
            all_goals
              clear hR k1 k0 kM
              refine .inl ⟨by kernel_rfl, ?_⟩
              go_simp
              exact ⟨_, rfl, Fr.refl _ _, rfl, trivial⟩
          · intro u w' hf hR kM
            have k21 : u 21 = _ := hR 21 (by omega)
            clear hR kM
            simp only [List.take_succ_cons, List.take_zero, List.map_cons, List.map_nil, puts, Act.put, List.setIfInBounds_toArray, List.set_cons_zero, List.set_cons_succ, List.drop_succ_cons, List.drop_zero, Nat.reduceAdd, Nat.zero_add, k21]
            have FA := Lib.hid (F4.out.trans hf)
            have m4 := hf.cellSome n4.out (fun x => x)
            clear hf k21 n2 n3 n4
            go_wp2
            go_ret
            refine ⟨_, rfl, ?_, FA.out⟩
            rw [HOK.out]
            have hh : (decide (0 ≤ ix) && decide (ix ≤ mo)) = false := by rw [decide_eq_false (by have := V0.out; omega)]; rfl
            rw [okUs]
            simp only [hh]
            simp
        have v0 : decide (ix < 0) = false := decide_eq_false hi0
        by_cases hi1 : mo < ix
        · have v1 : decide (mo < ix) = true := decide_eq_true hi1
          have V1 := Lib.hid hi1
          clear hi0 hi1
          go_upto_region 8 with fail
          refine wp_region_st 22 Nothing [Is (.pointer (some ⟨gb, 2, none⟩)), Is (.int .i64 nu), Is (.bool false), Is (.bool false), Is (.pointer (some ⟨gb, 2, none⟩)), Is (.int .i64 nu), Is (.bool false), Is (.bool false), Is (.bool false), Is (.pointer (some ⟨gb, 3, none⟩)), Is (.int .i64 ix), Is (.bool false), Is (.bool false), Is (.bool false), Is (.pointer (some ⟨gb, 3, none⟩)), Is (.int .i64 ix), Is (.int .i64 (k : Int)), Is (.int .i64 mq), Is (.int .i64 mo), Is (.bool true), Is (.bool true), Is (.bool true)] [] (fun _ => True) (fun _ _ => false) (by kernel_rfl) (by kernel_rfl) (by kernel_rfl) (by kernel_rfl) ⟨Is.stable _, Is.stable _, Is.stable _, Is.stable _, Is.stable _, Is.stable _, Is.stable _, Is.stable _, Is.stable _, Is.stable _, Is.stable _, Is.stable _, Is.stable _, Is.stable _, Is.stable _, Is.stable _, Is.stable _, Is.stable _, Is.stable _, Is.stable _, Is.stable _, Is.stable _, trivial⟩ trivial (fun _ _ _ _ h => h) trivial ?_ ?_
          · refine ⟨?a13_0, ?a13_1, ?a13_2, ?a13_3, ?a13_4, ?a13_5, ?a13_6, ?a13_7, ?a13_8, ?a13_9, ?a13_10, ?a13_11, ?a13_12, ?a13_13, ?a13_14, ?a13_15, ?a13_16, ?a13_17, ?a13_18, ?a13_19, ?a13_20, ?a13_21, trivial⟩
            all_goals intro u w' d hf hR k1 k0 kM
            all_goals simp only [List.take_succ_cons, List.take_zero, List.map_cons, List.map_nil, puts, Act.put, List.setIfInBounds_toArray, List.set_cons_zero, List.set_cons_succ, Nat.reduceAdd, Nat.zero_add]
            case a13_1 =>
              simp only [show u 0 = _ from hR 0 (by kernel_rfl)]
              clear hR k1 k0 kM
              refine .inl ⟨by kernel_rfl, ?_⟩
              have q := hf.cellSome (n2.out) (fun x => x)
              go_simp
              exact ⟨_, rfl, Fr.refl _ _, rfl, trivial⟩
            case' a13_2 => simp only [show u 1 = _ from hR 1 (by kernel_rfl)]
            case' a13_3 => simp only [show u 2 = _ from hR 2 (by kernel_rfl)]
            case' a13_4 => simp only [show u 3 = _ from hR 3 (by kernel_rfl)]
            case a13_5 =>
              simp only [show u 4 = _ from hR 4 (by kernel_rfl), show u 3 = _ from hR 3 (by kernel_rfl)]
              clear hR k1 k0 kM
              refine .inl ⟨by kernel_rfl, ?_⟩
              have q := hf.cellSome (n2.out) (fun x => x)
              go_simp
              exact ⟨_, rfl, Fr.refl _ _, rfl, trivial⟩
            case' a13_6 => simp only [show u 5 = _ from hR 5 (by kernel_rfl), show u 3 = _ from hR 3 (by kernel_rfl)]
            case' a13_7 => simp only [show u 3 = _ from hR 3 (by kernel_rfl), show u 6 = _ from hR 6 (by kernel_rfl)]
            case' a13_8 => simp only [show u 7 = _ from hR 7 (by kernel_rfl)]
            case' a13_9 => simp only [show u 8 = _ from hR 8 (by kernel_rfl)]
            case a13_10 =>
              simp only [show u 9 = _ from hR 9 (by kernel_rfl), show u 8 = _ from hR 8 (by kernel_rfl)]
              clear hR k1 k0 kM
              refine .inl ⟨by kernel_rfl, ?_⟩
              have q := hf.cellSome (n3.out) (fun x => x)
              go_simp
              exact ⟨_, rfl, Fr.refl _ _, rfl, trivial⟩
            case' a13_11 => simp only [show u 10 = _ from hR 10 (by kernel_rfl), show u 8 = _ from hR 8 (by kernel_rfl)]
            case' a13_12 => simp only [show u 8 = _ from hR 8 (by kernel_rfl), show u 11 = _ from hR 11 (by kernel_rfl)]
            case' a13_13 => simp only [show u 12 = _ from hR 12 (by kernel_rfl)]
            case' a13_14 => simp only [show u 13 = _ from hR 13 (by kernel_rfl)]
            case a13_15 =>
              simp only [show u 14 = _ from hR 14 (by kernel_rfl), show u 13 = _ from hR 13 (by kernel_rfl)]
              clear hR k1 k0 kM
              refine .inl ⟨by kernel_rfl, ?_⟩
              have q := hf.cellSome (n3.out) (fun x => x)
              go_simp
              exact ⟨_, rfl, Fr.refl _ _, rfl, trivial⟩
            case' a13_16 => simp only [show u 13 = _ from hR 13 (by kernel_rfl)]
            case a13_17 =>
              simp only [show u 16 = _ from hR 16 (by kernel_rfl), show u 13 = _ from hR 13 (by kernel_rfl)]
              clear hR k1 k0 kM
              refine .inl ⟨by kernel_rfl, ?_⟩
              go_simp
              refine (CM.out _).mono ?_
              rintro e w9 ⟨rfl, rfl⟩
              exact ⟨_, rfl, Fr.refl _ _, rfl, trivial⟩
            case a13_18 =>
              simp only [show u 17 = _ from hR 17 (by kernel_rfl), show u 13 = _ from hR 13 (by kernel_rfl)]
              clear hR k1 k0 kM
              refine .inl ⟨by kernel_rfl, ?_⟩
              have q := HMX.out
              go_simp
              exact ⟨_, rfl, Fr.refl _ _, rfl, trivial⟩
            case' a13_19 => simp only [show u 15 = _ from hR 15 (by kernel_rfl), show u 18 = _ from hR 18 (by kernel_rfl), show u 13 = _ from hR 13 (by kernel_rfl)]
            case' a13_20 => simp only [show u 13 = _ from hR 13 (by kernel_rfl), show u 19 = _ from hR 19 (by kernel_rfl)]
            case' a13_21 => simp only [show u 20 = _ from hR 20 (by kernel_rfl)]
            all_goals
              clear hR k1 k0 kM
              refine .inl ⟨by kernel_rfl, ?_⟩
              go_simp
              exact ⟨_, rfl, Fr.refl _ _, rfl, trivial⟩
          · intro u w' hf hR kM
            have k21 : u 21 = _ := hR 21 (by omega)
            clear hR kM
            simp only [List.take_succ_cons, List.take_zero, List.map_cons, List.map_nil, puts, Act.put, List.setIfInBounds_toArray, List.set_cons_zero, List.set_cons_succ, List.drop_succ_cons, List.drop_zero, Nat.reduceAdd, Nat.zero_add, k21]
            have FA := Lib.hid (F4.out.trans hf)
            have m4 := hf.cellSome n4.out (fun x => x)
            clear hf k21 n2 n3 n4
            go_wp2
            go_ret
            refine ⟨_, rfl, ?_, FA.out⟩
            rw [HOK.out]
            have hh : (decide (0 ≤ ix) && decide (ix ≤ mo)) = false := by rw [decide_eq_false (show ¬ ix ≤ mo by have := V1.out; omega)]; simp
            rw [okUs]
            simp only [hh]
            simp
        have v1 : decide (mo < ix) = false := decide_eq_false hi1
        have HIX : Hid ((decide (0 ≤ ix) && decide (ix ≤ mo)) = true) := by simp only [Hid]; rw [decide_eq_true (show 0 ≤ ix by omega), decide_eq_true (show ix ≤ mo by omega)]; rfl
        clear hi0 hi1
        go_upto_region 8 with fail
        refine wp_region_st 22 Nothing [Is (.pointer (some ⟨gb, 2, none⟩)), Is (.int .i64 nu), Is (.bool false), Is (.bool false), Is (.pointer (some ⟨gb, 2, none⟩)), Is (.int .i64 nu), Is (.bool false), Is (.bool false), Is (.bool false), Is (.pointer (some ⟨gb, 3, none⟩)), Is (.int .i64 ix), Is (.bool false), Is (.bool false), Is (.bool false), Is (.pointer (some ⟨gb, 3, none⟩)), Is (.int .i64 ix), Is (.int .i64 (k : Int)), Is (.int .i64 mq), Is (.int .i64 mo), Is (.bool false), Is (.bool false), Is (.bool false)] [] (fun _ => True) (fun _ _ => false) (by kernel_rfl) (by kernel_rfl) (by kernel_rfl) (by kernel_rfl) ⟨Is.stable _, Is.stable _, Is.stable _, Is.stable _, Is.stable _, Is.stable _, Is.stable _, Is.stable _, Is.stable _, Is.stable _, Is.stable _, Is.stable _, Is.stable _, Is.stable _, Is.stable _, Is.stable _, Is.stable _, Is.stable _, Is.stable _, Is.stable _, Is.stable _, Is.stable _, trivial⟩ trivial (fun _ _ _ _ h => h) trivial ?_ ?_
        · refine ⟨?a14_0, ?a14_1, ?a14_2, ?a14_3, ?a14_4, ?a14_5, ?a14_6, ?a14_7, ?a14_8, ?a14_9, ?a14_10, ?a14_11, ?a14_12, ?a14_13, ?a14_14, ?a14_15, ?a14_16, ?a14_17, ?a14_18, ?a14_19, ?a14_20, ?a14_21, trivial⟩
          all_goals intro u w' d hf hR k1 k0 kM
          all_goals simp only [List.take_succ_cons, List.take_zero, List.map_cons, List.map_nil, puts, Act.put, List.setIfInBounds_toArray, List.set_cons_zero, List.set_cons_succ, Nat.reduceAdd, Nat.zero_add]
          case a14_1 =>
            simp only [show u 0 = _ from hR 0 (by kernel_rfl)]
            clear hR k1 k0 kM
            refine .inl ⟨by kernel_rfl, ?_⟩
            have q := hf.cellSome (n2.out) (fun x => x)
            go_simp
            exact ⟨_, rfl, Fr.refl _ _, rfl, trivial⟩
          case' a14_2 => simp only [show u 1 = _ from hR 1 (by kernel_rfl)]
          case' a14_3 => simp only [show u 2 = _ from hR 2 (by kernel_rfl)]
          case' a14_4 => simp only [show u 3 = _ from hR 3 (by kernel_rfl)]
          case a14_5 =>
            simp only [show u 4 = _ from hR 4 (by kernel_rfl), show u 3 = _ from hR 3 (by kernel_rfl)]
            clear hR k1 k0 kM
            refine .inl ⟨by kernel_rfl, ?_⟩
            have q := hf.cellSome (n2.out) (fun x => x)
            go_simp
            exact ⟨_, rfl, Fr.refl _ _, rfl, trivial⟩
          case' a14_6 => simp only [show u 5 = _ from hR 5 (by kernel_rfl), show u 3 = _ from hR 3 (by kernel_rfl)]
          case' a14_7 => simp only [show u 3 = _ from hR 3 (by kernel_rfl), show u 6 = _ from hR 6 (by kernel_rfl)]
          case' a14_8 => simp only [show u 7 = _ from hR 7 (by kernel_rfl)]
          case' a14_9 => simp only [show u 8 = _ from hR 8 (by kernel_rfl)]
          case a14_10 =>
            simp only [show u 9 = _ from hR 9 (by kernel_rfl), show u 8 = _ from hR 8 (by kernel_rfl)]
            clear hR k1 k0 kM
            refine .inl ⟨by kernel_rfl, ?_⟩
            have q := hf.cellSome (n3.out) (fun x => x)
            go_simp
            exact ⟨_, rfl, Fr.refl _ _, rfl, trivial⟩
          case' a14_11 => simp only [show u 10 = _ from hR 10 (by kernel_rfl), show u 8 = _ from hR 8 (by kernel_rfl)]
          case' a14_12 => simp only [show u 8 = _ from hR 8 (by kernel_rfl), show u 11 = _ from hR 11 (by kernel_rfl)]
          case' a14_13 => simp only [show u 12 = _ from hR 12 (by kernel_rfl)]
          case' a14_14 => simp only [show u 13 = _ from hR 13 (by kernel_rfl)]
          case a14_15 =>
            simp only [show u 14 = _ from hR 14 (by kernel_rfl), show u 13 = _ from hR 13 (by kernel_rfl)]
            clear hR k1 k0 kM
            refine .inl ⟨by kernel_rfl, ?_⟩
            have q := hf.cellSome (n3.out) (fun x => x)
            go_simp
            exact ⟨_, rfl, Fr.refl _ _, rfl, trivial⟩
          case' a14_16 => simp only [show u 13 = _ from hR 13 (by kernel_rfl)]
          case a14_17 =>
            simp only [show u 16 = _ from hR 16 (by kernel_rfl), show u 13 = _ from hR 13 (by kernel_rfl)]
            clear hR k1 k0 kM
            refine .inl ⟨by kernel_rfl, ?_⟩
            go_simp
            refine (CM.out _).mono ?_
            rintro e w9 ⟨rfl, rfl⟩
            exact ⟨_, rfl, Fr.refl _ _, rfl, trivial⟩
          case a14_18 =>
            simp only [show u 17 = _ from hR 17 (by kernel_rfl), show u 13 = _ from hR 13 (by kernel_rfl)]
            clear hR k1 k0 kM
            refine .inl ⟨by kernel_rfl, ?_⟩
            have q := HMX.out
            go_simp
            exact ⟨_, rfl, Fr.refl _ _, rfl, trivial⟩
          case' a14_19 => simp only [show u 15 = _ from hR 15 (by kernel_rfl), show u 18 = _ from hR 18 (by kernel_rfl), show u 13 = _ from hR 13 (by kernel_rfl)]
          case' a14_20 => simp only [show u 13 = _ from hR 13 (by kernel_rfl), show u 19 = _ from hR 19 (by kernel_rfl)]
          case' a14_21 => simp only [show u 20 = _ from hR 20 (by kernel_rfl)]
          all_goals
            clear hR k1 k0 kM
            refine .inl ⟨by kernel_rfl, ?_⟩
            go_simp
            exact ⟨_, rfl, Fr.refl _ _, rfl, trivial⟩
        · intro u w' hf hR kM
          have k21 : u 21 = _ := hR 21 (by omega)
          clear hR kM
          simp only [List.take_succ_cons, List.take_zero, List.map_cons, List.map_nil, puts, Act.put, List.setIfInBounds_toArray, List.set_cons_zero, List.set_cons_succ, List.drop_succ_cons, List.drop_zero, Nat.reduceAdd, Nat.zero_add, k21]
          have FA := Lib.hid (F4.out.trans hf)
          have m4 := hf.cellSome n4.out (fun x => x)
          clear hf k21 n2 n3 n4
          go_wp2_with fail
          refine (CT.out _).mono ?_
          rintro e w9 ⟨rfl, rfl⟩
          go_wp2
          go_ret
          refine ⟨_, rfl, ?_, FA.out⟩
          rw [HOK.out]
          rw [okUs]
          simp only [He_nu.out, He_tx.out, Hv1.out, HIX.out]
          simp
  · have He_nu := Lib.hid e_nu
    have t_e_nu := bne0 e_nu
    clear e_nu
    go_wp2
    go_ret
    refine ⟨_, rfl, ?_, F1.out⟩
    rw [HOK.out]
    simp [okUs, He_nu.out]
set_option maxRecDepth 100000 in
set_option maxHeartbeats 8000000 in
theorem rCheck_1100 (k : Nat) (ow : ByteArray) (nu ix : Int) (tx wd : ByteArray) (mo : Int) (w : World) (hk : 1 ≤ k ∧ k ≤ 20) (hu : usaL[k]? = some ⟨wd, true, true, false, false, mo⟩) (ho : ow.size ≤ 1099511627776) (ht : tx.size ≤ 1099511627776) (_hmo : 0 ≤ mo) (hmo0 : mo = 0) :
    Calls Tryd.prog 80 #[.agg #[.int .i64 (k : Int), .string ow, .int .i64 nu, .int .i64 ix, .string tx]] w (Checked w ⟨(k : Int), ow, nu, ix, tx⟩) := by
  have HOK : Hid (okNm ⟨(k : Int), ow, nu, ix, tx⟩ = okUs ⟨wd, true, true, false, false, mo⟩ ⟨(k : Int), ow, nu, ix, tx⟩) := by
    simp only [Hid, okNm, Int.toNat_natCast, hu]
    rw [decide_eq_true (show (1 : Int) ≤ (k : Int) by omega), decide_eq_true (show (k : Int) ≤ 20 by omega)]
    rfl
  have HOW := Lib.hid ho
  have HTX := Lib.hid ht
  have CO : Hid (∀ w, Calls Tryd.prog 97 #[.int .i64 (k : Int)] w (SameW w (.bool true))) := fun w => rOwned_any k _ w hk hu
  have CN : Hid (∀ w, Calls Tryd.prog 99 #[.int .i64 (k : Int)] w (SameW w (.bool true))) := fun w => rNumbered_any k _ w hk hu
  have CT : Hid (∀ w, Calls Tryd.prog 101 #[.int .i64 (k : Int)] w (SameW w (.bool false))) := fun w => rTexted_any k _ w hk hu
  obtain ⟨mq, hmq⟩ : ∃ mq : Int, mq = (if false = true then mo else -1) := ⟨_, rfl⟩
  have CM : Hid (∀ w, Calls Tryd.prog 100 #[.int .i64 (k : Int)] w (SameW w (.int .i64 mq))) := fun w => by rw [hmq]; exact rMost_any k _ w hk hu
  have hmq2 : mq = -1 := by rw [hmq]; simp
  have tq : decide (mq < 0) = true := decide_eq_true (by omega)
  have HMX : Hid (max mq 0 = mo) := by simp only [Hid]; omega
  have k1 : decide ((k : Int) < 1) = false := decide_eq_false (by omega)
  have k1' : ¬ (k : Int) < 1 := by omega
  have k2 : decide ((20 : Int) < (k : Int)) = false := decide_eq_false (by omega)
  have k2' : ¬ (20 : Int) < (k : Int) := by omega
  clear hk hu ho ht hmq hmq2
  go_enter Tryd.func80, Tryd.ntmps80
  go_wp2_with (refine wpList_boxBlk rfl 40 (.tmp 0) rfl #[.int .i64 (k : Int), .string ow, .int .i64 nu, .int .i64 ix, .string tx] rfl ?_)
  intro w1 n1
  have F1 := Lib.hid n1.fr
  have NB := Lib.hid n1.blk
  have c0 : w1.cell? ⟨w.heap.size, 0, none⟩ = some (.int .i64 (k : Int)) := n1.blk.cell 0
  have c1 : w1.cell? ⟨w.heap.size, 1, none⟩ = some (.string ow) := n1.blk.cell 1
  have c2 : w1.cell? ⟨w.heap.size, 2, none⟩ = some (.int .i64 nu) := n1.blk.cell 2
  have c3 : w1.cell? ⟨w.heap.size, 3, none⟩ = some (.int .i64 ix) := n1.blk.cell 3
  have c4 : w1.cell? ⟨w.heap.size, 4, none⟩ = some (.string tx) := n1.blk.cell 4
  clear n1
  generalize w.heap.size = gb at *
  go_wp2_with fail
  refine (CO.out _).mono ?_
  rintro e w9 ⟨rfl, rfl⟩
  go_wp2_with fail
  refine (CN.out _).mono ?_
  rintro e w9 ⟨rfl, rfl⟩
  go_wp2_with fail
  refine (CM.out _).mono ?_
  rintro e w9 ⟨rfl, rfl⟩
  by_cases e_ix : ix = 0
  · have He_ix := Lib.hid e_ix
    have t_e_ix := beq0 e_ix
    clear e_ix
    go_wp2_with fail
    refine (CT.out _).mono ?_
    rintro e w9 ⟨rfl, rfl⟩
    cases e_tx : tx.toList.isEmpty
    · have He_tx := Lib.hid e_tx
      go_wp2
      go_ret
      refine ⟨_, rfl, ?_, F1.out⟩
      rw [HOK.out]
      simp [okUs, He_tx.out]
    · have He_tx := Lib.hid e_tx
      go_wp2_with fail
      refine (CO.out _).mono ?_
      rintro e w9 ⟨rfl, rfl⟩
      have K1 := Lib.hid (rValid_any ow w1 HOW.out)
      obtain ⟨v1, hv1⟩ : ∃ v1, validO ow = v1 := ⟨_, rfl⟩
      have Hv1 := Lib.hid hv1
      rw [hv1] at K1
      clear hv1
      go_wp2_with fail
      refine K1.out.mono ?_
      rintro e w4 ⟨rfl, f4⟩
      have F4 := Lib.hid (F1.out.trans f4)
      have n2 := Lib.hid (f4.cellSome c2 (fun x => x))
      have n3 := Lib.hid (f4.cellSome c3 (fun x => x))
      have n4 := Lib.hid (f4.cellSome c4 (fun x => x))
      clear f4 c0 c1 c2 c3 c4
      cases v1
      · go_wp2
        go_ret
        refine ⟨_, rfl, ?_, F4.out⟩
        rw [HOK.out]
        have hh := Hv1.out
        simp [okUs, hh]
      · by_cases hn0 : nu < 0
        · have u0 : decide (nu < 0) = true := decide_eq_true hn0
          have U0 := Lib.hid hn0
          clear hn0
          go_upto_region 8 with fail
          refine wp_region_st 22 Nothing [Is (.pointer (some ⟨gb, 2, none⟩)), Is (.int .i64 nu), Is (.bool true), Is (.bool true), Is (undef), Is (undef), Is (undef), Is (.bool true), Is (.bool true), Is (undef), Is (undef), Is (undef), Is (.bool true), Is (.bool true), Is (undef), Is (undef), Is (undef), Is (undef), Is (undef), Is (undef), Is (.bool true), Is (.bool true)] [] (fun _ => True) (fun _ _ => false) (by kernel_rfl) (by kernel_rfl) (by kernel_rfl) (by kernel_rfl) ⟨Is.stable _, Is.stable _, Is.stable _, Is.stable _, Is.stable _, Is.stable _, Is.stable _, Is.stable _, Is.stable _, Is.stable _, Is.stable _, Is.stable _, Is.stable _, Is.stable _, Is.stable _, Is.stable _, Is.stable _, Is.stable _, Is.stable _, Is.stable _, Is.stable _, Is.stable _, trivial⟩ trivial (fun _ _ _ _ h => h) trivial ?_ ?_
          · refine ⟨?a15_0, ?a15_1, ?a15_2, ?a15_3, ?a15_4, ?a15_5, ?a15_6, ?a15_7, ?a15_8, ?a15_9, ?a15_10, ?a15_11, ?a15_12, ?a15_13, ?a15_14, ?a15_15, ?a15_16, ?a15_17, ?a15_18, ?a15_19, ?a15_20, ?a15_21, trivial⟩
            all_goals intro u w' d hf hR k1 k0 kM
            all_goals simp only [List.take_succ_cons, List.take_zero, List.map_cons, List.map_nil, puts, Act.put, List.setIfInBounds_toArray, List.set_cons_zero, List.set_cons_succ, Nat.reduceAdd, Nat.zero_add]
            case a15_1 =>
              simp only [show u 0 = _ from hR 0 (by kernel_rfl)]
              clear hR k1 k0 kM
              refine .inl ⟨by kernel_rfl, ?_⟩
              have q := hf.cellSome (n2.out) (fun x => x)
              go_simp
              exact ⟨_, rfl, Fr.refl _ _, rfl, trivial⟩
            case' a15_2 => simp only [show u 1 = _ from hR 1 (by kernel_rfl)]
            case' a15_3 => simp only [show u 2 = _ from hR 2 (by kernel_rfl)]
            case a15_4 => simp only [show u 3 = _ from hR 3 (by kernel_rfl)]; exact .inr ⟨by kernel_rfl, _, rfl, Fr.refl _ _, rfl, trivial⟩
            case a15_5 => simp only [show u 3 = _ from hR 3 (by kernel_rfl)]; exact .inr ⟨by kernel_rfl, _, rfl, Fr.refl _ _, rfl, trivial⟩
            case a15_6 => simp only [show u 3 = _ from hR 3 (by kernel_rfl)]; exact .inr ⟨by kernel_rfl, _, rfl, Fr.refl _ _, rfl, trivial⟩
            case' a15_7 => simp only [show u 3 = _ from hR 3 (by kernel_rfl), show u 6 = _ from hR 6 (by kernel_rfl)]
            case' a15_8 => simp only [show u 7 = _ from hR 7 (by kernel_rfl)]
            case a15_9 => simp only [show u 8 = _ from hR 8 (by kernel_rfl)]; exact .inr ⟨by kernel_rfl, _, rfl, Fr.refl _ _, rfl, trivial⟩
            case a15_10 => simp only [show u 8 = _ from hR 8 (by kernel_rfl)]; exact .inr ⟨by kernel_rfl, _, rfl, Fr.refl _ _, rfl, trivial⟩
            case a15_11 => simp only [show u 8 = _ from hR 8 (by kernel_rfl)]; exact .inr ⟨by kernel_rfl, _, rfl, Fr.refl _ _, rfl, trivial⟩
            case' a15_12 => simp only [show u 8 = _ from hR 8 (by kernel_rfl), show u 11 = _ from hR 11 (by kernel_rfl)]
            case' a15_13 => simp only [show u 12 = _ from hR 12 (by kernel_rfl)]
            case a15_14 => simp only [show u 13 = _ from hR 13 (by kernel_rfl)]; exact .inr ⟨by kernel_rfl, _, rfl, Fr.refl _ _, rfl, trivial⟩
            case a15_15 => simp only [show u 13 = _ from hR 13 (by kernel_rfl)]; exact .inr ⟨by kernel_rfl, _, rfl, Fr.refl _ _, rfl, trivial⟩
            case a15_16 => simp only [show u 13 = _ from hR 13 (by kernel_rfl)]; exact .inr ⟨by kernel_rfl, _, rfl, Fr.refl _ _, rfl, trivial⟩
            case a15_17 => simp only [show u 13 = _ from hR 13 (by kernel_rfl)]; exact .inr ⟨by kernel_rfl, _, rfl, Fr.refl _ _, rfl, trivial⟩
            case a15_18 => simp only [show u 13 = _ from hR 13 (by kernel_rfl)]; exact .inr ⟨by kernel_rfl, _, rfl, Fr.refl _ _, rfl, trivial⟩
            case a15_19 => simp only [show u 13 = _ from hR 13 (by kernel_rfl)]; exact .inr ⟨by kernel_rfl, _, rfl, Fr.refl _ _, rfl, trivial⟩
            case' a15_20 => simp only [show u 13 = _ from hR 13 (by kernel_rfl), show u 19 = _ from hR 19 (by kernel_rfl)]
            case' a15_21 => simp only [show u 20 = _ from hR 20 (by kernel_rfl)]
            all_goals
              clear hR k1 k0 kM
              refine .inl ⟨by kernel_rfl, ?_⟩
              go_simp
              exact ⟨_, rfl, Fr.refl _ _, rfl, trivial⟩
          · intro u w' hf hR kM
            have k21 : u 21 = _ := hR 21 (by omega)
            clear hR kM
            simp only [List.take_succ_cons, List.take_zero, List.map_cons, List.map_nil, puts, Act.put, List.setIfInBounds_toArray, List.set_cons_zero, List.set_cons_succ, List.drop_succ_cons, List.drop_zero, Nat.reduceAdd, Nat.zero_add, k21]
            have FA := Lib.hid (F4.out.trans hf)
            have m4 := hf.cellSome n4.out (fun x => x)
            clear hf k21 n2 n3 n4
            go_wp2
            go_ret
            refine ⟨_, rfl, ?_, FA.out⟩
            rw [HOK.out]
            have hh : (decide (0 ≤ nu) && decide (nu ≤ 1073741824)) = false := by rw [decide_eq_false (by have := U0.out; omega)]; rfl
            rw [okUs]
            simp only [hh]
            simp
        have u0 : decide (nu < 0) = false := decide_eq_false hn0
        by_cases hn1 : 1073741824 < nu
        · have u1 : decide (1073741824 < nu) = true := decide_eq_true hn1
          have U1 := Lib.hid hn1
          clear hn0 hn1
          go_upto_region 8 with fail
          refine wp_region_st 22 Nothing [Is (.pointer (some ⟨gb, 2, none⟩)), Is (.int .i64 nu), Is (.bool false), Is (.bool false), Is (.pointer (some ⟨gb, 2, none⟩)), Is (.int .i64 nu), Is (.bool true), Is (.bool true), Is (.bool true), Is (undef), Is (undef), Is (undef), Is (.bool true), Is (.bool true), Is (undef), Is (undef), Is (undef), Is (undef), Is (undef), Is (undef), Is (.bool true), Is (.bool true)] [] (fun _ => True) (fun _ _ => false) (by kernel_rfl) (by kernel_rfl) (by kernel_rfl) (by kernel_rfl) ⟨Is.stable _, Is.stable _, Is.stable _, Is.stable _, Is.stable _, Is.stable _, Is.stable _, Is.stable _, Is.stable _, Is.stable _, Is.stable _, Is.stable _, Is.stable _, Is.stable _, Is.stable _, Is.stable _, Is.stable _, Is.stable _, Is.stable _, Is.stable _, Is.stable _, Is.stable _, trivial⟩ trivial (fun _ _ _ _ h => h) trivial ?_ ?_
          · refine ⟨?a16_0, ?a16_1, ?a16_2, ?a16_3, ?a16_4, ?a16_5, ?a16_6, ?a16_7, ?a16_8, ?a16_9, ?a16_10, ?a16_11, ?a16_12, ?a16_13, ?a16_14, ?a16_15, ?a16_16, ?a16_17, ?a16_18, ?a16_19, ?a16_20, ?a16_21, trivial⟩
            all_goals intro u w' d hf hR k1 k0 kM
            all_goals simp only [List.take_succ_cons, List.take_zero, List.map_cons, List.map_nil, puts, Act.put, List.setIfInBounds_toArray, List.set_cons_zero, List.set_cons_succ, Nat.reduceAdd, Nat.zero_add]
            case a16_1 =>
              simp only [show u 0 = _ from hR 0 (by kernel_rfl)]
              clear hR k1 k0 kM
              refine .inl ⟨by kernel_rfl, ?_⟩
              have q := hf.cellSome (n2.out) (fun x => x)
              go_simp
              exact ⟨_, rfl, Fr.refl _ _, rfl, trivial⟩
            case' a16_2 => simp only [show u 1 = _ from hR 1 (by kernel_rfl)]
            case' a16_3 => simp only [show u 2 = _ from hR 2 (by kernel_rfl)]
            case' a16_4 => simp only [show u 3 = _ from hR 3 (by kernel_rfl)]
            case a16_5 =>
              simp only [show u 4 = _ from hR 4 (by kernel_rfl), show u 3 = _ from hR 3 (by kernel_rfl)]
              clear hR k1 k0 kM
              refine .inl ⟨by kernel_rfl, ?_⟩
              have q := hf.cellSome (n2.out) (fun x => x)
              go_simp
              exact ⟨_, rfl, Fr.refl _ _, rfl, trivial⟩
            case' a16_6 => simp only [show u 5 = _ from hR 5 (by kernel_rfl), show u 3 = _ from hR 3 (by kernel_rfl)]
            case' a16_7 => simp only [show u 3 = _ from hR 3 (by kernel_rfl), show u 6 = _ from hR 6 (by kernel_rfl)]
            case' a16_8 => simp only [show u 7 = _ from hR 7 (by kernel_rfl)]
            case a16_9 => simp only [show u 8 = _ from hR 8 (by kernel_rfl)]; exact .inr ⟨by kernel_rfl, _, rfl, Fr.refl _ _, rfl, trivial⟩
            case a16_10 => simp only [show u 8 = _ from hR 8 (by kernel_rfl)]; exact .inr ⟨by kernel_rfl, _, rfl, Fr.refl _ _, rfl, trivial⟩
            case a16_11 => simp only [show u 8 = _ from hR 8 (by kernel_rfl)]; exact .inr ⟨by kernel_rfl, _, rfl, Fr.refl _ _, rfl, trivial⟩
            case' a16_12 => simp only [show u 8 = _ from hR 8 (by kernel_rfl), show u 11 = _ from hR 11 (by kernel_rfl)]
            case' a16_13 => simp only [show u 12 = _ from hR 12 (by kernel_rfl)]
            case a16_14 => simp only [show u 13 = _ from hR 13 (by kernel_rfl)]; exact .inr ⟨by kernel_rfl, _, rfl, Fr.refl _ _, rfl, trivial⟩
            case a16_15 => simp only [show u 13 = _ from hR 13 (by kernel_rfl)]; exact .inr ⟨by kernel_rfl, _, rfl, Fr.refl _ _, rfl, trivial⟩
            case a16_16 => simp only [show u 13 = _ from hR 13 (by kernel_rfl)]; exact .inr ⟨by kernel_rfl, _, rfl, Fr.refl _ _, rfl, trivial⟩
            case a16_17 => simp only [show u 13 = _ from hR 13 (by kernel_rfl)]; exact .inr ⟨by kernel_rfl, _, rfl, Fr.refl _ _, rfl, trivial⟩
            case a16_18 => simp only [show u 13 = _ from hR 13 (by kernel_rfl)]; exact .inr ⟨by kernel_rfl, _, rfl, Fr.refl _ _, rfl, trivial⟩
            case a16_19 => simp only [show u 13 = _ from hR 13 (by kernel_rfl)]; exact .inr ⟨by kernel_rfl, _, rfl, Fr.refl _ _, rfl, trivial⟩
            case' a16_20 => simp only [show u 13 = _ from hR 13 (by kernel_rfl), show u 19 = _ from hR 19 (by kernel_rfl)]
            case' a16_21 => simp only [show u 20 = _ from hR 20 (by kernel_rfl)]
            all_goals
              clear hR k1 k0 kM
              refine .inl ⟨by kernel_rfl, ?_⟩
              go_simp
              exact ⟨_, rfl, Fr.refl _ _, rfl, trivial⟩
          · intro u w' hf hR kM
            have k21 : u 21 = _ := hR 21 (by omega)
            clear hR kM
            simp only [List.take_succ_cons, List.take_zero, List.map_cons, List.map_nil, puts, Act.put, List.setIfInBounds_toArray, List.set_cons_zero, List.set_cons_succ, List.drop_succ_cons, List.drop_zero, Nat.reduceAdd, Nat.zero_add, k21]
            have FA := Lib.hid (F4.out.trans hf)
            have m4 := hf.cellSome n4.out (fun x => x)
            clear hf k21 n2 n3 n4
            go_wp2
            go_ret
            refine ⟨_, rfl, ?_, FA.out⟩
            rw [HOK.out]
            have hh : (decide (0 ≤ nu) && decide (nu ≤ 1073741824)) = false := by rw [decide_eq_false (show ¬ nu ≤ 1073741824 by have := U1.out; omega)]; simp
            rw [okUs]
            simp only [hh]
            simp
        have u1 : decide (1073741824 < nu) = false := decide_eq_false hn1
        have HNU : Hid ((decide (0 ≤ nu) && decide (nu ≤ 1073741824)) = true) := by simp only [Hid]; rw [decide_eq_true (show 0 ≤ nu by omega), decide_eq_true (show nu ≤ 1073741824 by omega)]; rfl
        clear hn0 hn1
        have v0 : decide (ix < 0) = false := decide_eq_false (by have := He_ix.out; omega)
        have v1 : decide (mo < ix) = false := decide_eq_false (by have := He_ix.out; omega)
        go_upto_region 8 with fail
        refine wp_region_st 22 Nothing [Is (.pointer (some ⟨gb, 2, none⟩)), Is (.int .i64 nu), Is (.bool false), Is (.bool false), Is (.pointer (some ⟨gb, 2, none⟩)), Is (.int .i64 nu), Is (.bool false), Is (.bool false), Is (.bool false), Is (.pointer (some ⟨gb, 3, none⟩)), Is (.int .i64 ix), Is (.bool false), Is (.bool false), Is (.bool false), Is (.pointer (some ⟨gb, 3, none⟩)), Is (.int .i64 ix), Is (.int .i64 (k : Int)), Is (.int .i64 mq), Is (.int .i64 mo), Is (.bool false), Is (.bool false), Is (.bool false)] [] (fun _ => True) (fun _ _ => false) (by kernel_rfl) (by kernel_rfl) (by kernel_rfl) (by kernel_rfl) ⟨Is.stable _, Is.stable _, Is.stable _, Is.stable _, Is.stable _, Is.stable _, Is.stable _, Is.stable _, Is.stable _, Is.stable _, Is.stable _, Is.stable _, Is.stable _, Is.stable _, Is.stable _, Is.stable _, Is.stable _, Is.stable _, Is.stable _, Is.stable _, Is.stable _, Is.stable _, trivial⟩ trivial (fun _ _ _ _ h => h) trivial ?_ ?_
        · refine ⟨?a17_0, ?a17_1, ?a17_2, ?a17_3, ?a17_4, ?a17_5, ?a17_6, ?a17_7, ?a17_8, ?a17_9, ?a17_10, ?a17_11, ?a17_12, ?a17_13, ?a17_14, ?a17_15, ?a17_16, ?a17_17, ?a17_18, ?a17_19, ?a17_20, ?a17_21, trivial⟩
          all_goals intro u w' d hf hR k1 k0 kM
          all_goals simp only [List.take_succ_cons, List.take_zero, List.map_cons, List.map_nil, puts, Act.put, List.setIfInBounds_toArray, List.set_cons_zero, List.set_cons_succ, Nat.reduceAdd, Nat.zero_add]
          case a17_1 =>
            simp only [show u 0 = _ from hR 0 (by kernel_rfl)]
            clear hR k1 k0 kM
            refine .inl ⟨by kernel_rfl, ?_⟩
            have q := hf.cellSome (n2.out) (fun x => x)
            go_simp
            exact ⟨_, rfl, Fr.refl _ _, rfl, trivial⟩
          case' a17_2 => simp only [show u 1 = _ from hR 1 (by kernel_rfl)]
          case' a17_3 => simp only [show u 2 = _ from hR 2 (by kernel_rfl)]
          case' a17_4 => simp only [show u 3 = _ from hR 3 (by kernel_rfl)]
          case a17_5 =>
            simp only [show u 4 = _ from hR 4 (by kernel_rfl), show u 3 = _ from hR 3 (by kernel_rfl)]
            clear hR k1 k0 kM
            refine .inl ⟨by kernel_rfl, ?_⟩
            have q := hf.cellSome (n2.out) (fun x => x)
            go_simp
            exact ⟨_, rfl, Fr.refl _ _, rfl, trivial⟩
          case' a17_6 => simp only [show u 5 = _ from hR 5 (by kernel_rfl), show u 3 = _ from hR 3 (by kernel_rfl)]
          case' a17_7 => simp only [show u 3 = _ from hR 3 (by kernel_rfl), show u 6 = _ from hR 6 (by kernel_rfl)]
          case' a17_8 => simp only [show u 7 = _ from hR 7 (by kernel_rfl)]
          case' a17_9 => simp only [show u 8 = _ from hR 8 (by kernel_rfl)]
          case a17_10 =>
            simp only [show u 9 = _ from hR 9 (by kernel_rfl), show u 8 = _ from hR 8 (by kernel_rfl)]
            clear hR k1 k0 kM
            refine .inl ⟨by kernel_rfl, ?_⟩
            have q := hf.cellSome (n3.out) (fun x => x)
            go_simp
            exact ⟨_, rfl, Fr.refl _ _, rfl, trivial⟩
          case' a17_11 => simp only [show u 10 = _ from hR 10 (by kernel_rfl), show u 8 = _ from hR 8 (by kernel_rfl)]
          case' a17_12 => simp only [show u 8 = _ from hR 8 (by kernel_rfl), show u 11 = _ from hR 11 (by kernel_rfl)]
          case' a17_13 => simp only [show u 12 = _ from hR 12 (by kernel_rfl)]
          case' a17_14 => simp only [show u 13 = _ from hR 13 (by kernel_rfl)]
          case a17_15 =>
            simp only [show u 14 = _ from hR 14 (by kernel_rfl), show u 13 = _ from hR 13 (by kernel_rfl)]
            clear hR k1 k0 kM
            refine .inl ⟨by kernel_rfl, ?_⟩
            have q := hf.cellSome (n3.out) (fun x => x)
            go_simp
            exact ⟨_, rfl, Fr.refl _ _, rfl, trivial⟩
          case' a17_16 => simp only [show u 13 = _ from hR 13 (by kernel_rfl)]
          case a17_17 =>
            simp only [show u 16 = _ from hR 16 (by kernel_rfl), show u 13 = _ from hR 13 (by kernel_rfl)]
            clear hR k1 k0 kM
            refine .inl ⟨by kernel_rfl, ?_⟩
            go_simp
            refine (CM.out _).mono ?_
            rintro e w9 ⟨rfl, rfl⟩
            exact ⟨_, rfl, Fr.refl _ _, rfl, trivial⟩
          case a17_18 =>
            simp only [show u 17 = _ from hR 17 (by kernel_rfl), show u 13 = _ from hR 13 (by kernel_rfl)]
            clear hR k1 k0 kM
            refine .inl ⟨by kernel_rfl, ?_⟩
            have q := HMX.out
            go_simp
            exact ⟨_, rfl, Fr.refl _ _, rfl, trivial⟩
          case' a17_19 => simp only [show u 15 = _ from hR 15 (by kernel_rfl), show u 18 = _ from hR 18 (by kernel_rfl), show u 13 = _ from hR 13 (by kernel_rfl)]
          case' a17_20 => simp only [show u 13 = _ from hR 13 (by kernel_rfl), show u 19 = _ from hR 19 (by kernel_rfl)]
          case' a17_21 => simp only [show u 20 = _ from hR 20 (by kernel_rfl)]
          all_goals
            clear hR k1 k0 kM
            refine .inl ⟨by kernel_rfl, ?_⟩
            go_simp
            exact ⟨_, rfl, Fr.refl _ _, rfl, trivial⟩
        · intro u w' hf hR kM
          have k21 : u 21 = _ := hR 21 (by omega)
          clear hR kM
          simp only [List.take_succ_cons, List.take_zero, List.map_cons, List.map_nil, puts, Act.put, List.setIfInBounds_toArray, List.set_cons_zero, List.set_cons_succ, List.drop_succ_cons, List.drop_zero, Nat.reduceAdd, Nat.zero_add, k21]
          have FA := Lib.hid (F4.out.trans hf)
          have m4 := hf.cellSome n4.out (fun x => x)
          clear hf k21 n2 n3 n4
          go_wp2_with fail
          refine (CT.out _).mono ?_
          rintro e w9 ⟨rfl, rfl⟩
          go_wp2
          go_ret
          refine ⟨_, rfl, ?_, FA.out⟩
          rw [HOK.out]
          rw [okUs]
          simp only [He_ix.out, He_tx.out, Hv1.out, HNU.out]
          simp
  · have He_ix := Lib.hid e_ix
    have t_e_ix := bne0 e_ix
    clear e_ix
    go_wp2
    go_ret
    refine ⟨_, rfl, ?_, F1.out⟩
    rw [HOK.out]
    simp [okUs, He_ix.out]
set_option maxRecDepth 100000 in
set_option maxHeartbeats 8000000 in
theorem rCheck_1110 (k : Nat) (ow : ByteArray) (nu ix : Int) (tx wd : ByteArray) (mo : Int) (w : World) (hk : 1 ≤ k ∧ k ≤ 20) (hu : usaL[k]? = some ⟨wd, true, true, true, false, mo⟩) (ho : ow.size ≤ 1099511627776) (ht : tx.size ≤ 1099511627776) (hmo : 0 ≤ mo) :
    Calls Tryd.prog 80 #[.agg #[.int .i64 (k : Int), .string ow, .int .i64 nu, .int .i64 ix, .string tx]] w (Checked w ⟨(k : Int), ow, nu, ix, tx⟩) := by
  have HOK : Hid (okNm ⟨(k : Int), ow, nu, ix, tx⟩ = okUs ⟨wd, true, true, true, false, mo⟩ ⟨(k : Int), ow, nu, ix, tx⟩) := by
    simp only [Hid, okNm, Int.toNat_natCast, hu]
    rw [decide_eq_true (show (1 : Int) ≤ (k : Int) by omega), decide_eq_true (show (k : Int) ≤ 20 by omega)]
    rfl
  have HOW := Lib.hid ho
  have HTX := Lib.hid ht
  have CO : Hid (∀ w, Calls Tryd.prog 97 #[.int .i64 (k : Int)] w (SameW w (.bool true))) := fun w => rOwned_any k _ w hk hu
  have CN : Hid (∀ w, Calls Tryd.prog 99 #[.int .i64 (k : Int)] w (SameW w (.bool true))) := fun w => rNumbered_any k _ w hk hu
  have CT : Hid (∀ w, Calls Tryd.prog 101 #[.int .i64 (k : Int)] w (SameW w (.bool false))) := fun w => rTexted_any k _ w hk hu
  obtain ⟨mq, hmq⟩ : ∃ mq : Int, mq = (if true = true then mo else -1) := ⟨_, rfl⟩
  have CM : Hid (∀ w, Calls Tryd.prog 100 #[.int .i64 (k : Int)] w (SameW w (.int .i64 mq))) := fun w => by rw [hmq]; exact rMost_any k _ w hk hu
  have hmq2 : mq = mo := by rw [hmq]; simp
  have tq : decide (mq < 0) = false := decide_eq_false (by omega)
  have HMX : Hid (max mq 0 = mo) := by simp only [Hid]; omega
  have k1 : decide ((k : Int) < 1) = false := decide_eq_false (by omega)
  have k1' : ¬ (k : Int) < 1 := by omega
  have k2 : decide ((20 : Int) < (k : Int)) = false := decide_eq_false (by omega)
  have k2' : ¬ (20 : Int) < (k : Int) := by omega
  clear hk hu ho ht hmq hmq2
  go_enter Tryd.func80, Tryd.ntmps80
  go_wp2_with (refine wpList_boxBlk rfl 40 (.tmp 0) rfl #[.int .i64 (k : Int), .string ow, .int .i64 nu, .int .i64 ix, .string tx] rfl ?_)
  intro w1 n1
  have F1 := Lib.hid n1.fr
  have NB := Lib.hid n1.blk
  have c0 : w1.cell? ⟨w.heap.size, 0, none⟩ = some (.int .i64 (k : Int)) := n1.blk.cell 0
  have c1 : w1.cell? ⟨w.heap.size, 1, none⟩ = some (.string ow) := n1.blk.cell 1
  have c2 : w1.cell? ⟨w.heap.size, 2, none⟩ = some (.int .i64 nu) := n1.blk.cell 2
  have c3 : w1.cell? ⟨w.heap.size, 3, none⟩ = some (.int .i64 ix) := n1.blk.cell 3
  have c4 : w1.cell? ⟨w.heap.size, 4, none⟩ = some (.string tx) := n1.blk.cell 4
  clear n1
  generalize w.heap.size = gb at *
  go_wp2_with fail
  refine (CO.out _).mono ?_
  rintro e w9 ⟨rfl, rfl⟩
  go_wp2_with fail
  refine (CN.out _).mono ?_
  rintro e w9 ⟨rfl, rfl⟩
  go_wp2_with fail
  refine (CM.out _).mono ?_
  rintro e w9 ⟨rfl, rfl⟩
  go_wp2_with fail
  refine (CT.out _).mono ?_
  rintro e w9 ⟨rfl, rfl⟩
  cases e_tx : tx.toList.isEmpty
  · have He_tx := Lib.hid e_tx
    go_wp2
    go_ret
    refine ⟨_, rfl, ?_, F1.out⟩
    rw [HOK.out]
    simp [okUs, He_tx.out]
  · have He_tx := Lib.hid e_tx
    go_wp2_with fail
    refine (CO.out _).mono ?_
    rintro e w9 ⟨rfl, rfl⟩
    have K1 := Lib.hid (rValid_any ow w1 HOW.out)
    obtain ⟨v1, hv1⟩ : ∃ v1, validO ow = v1 := ⟨_, rfl⟩
    have Hv1 := Lib.hid hv1
    rw [hv1] at K1
    clear hv1
    go_wp2_with fail
    refine K1.out.mono ?_
    rintro e w4 ⟨rfl, f4⟩
    have F4 := Lib.hid (F1.out.trans f4)
    have n2 := Lib.hid (f4.cellSome c2 (fun x => x))
    have n3 := Lib.hid (f4.cellSome c3 (fun x => x))
    have n4 := Lib.hid (f4.cellSome c4 (fun x => x))
    clear f4 c0 c1 c2 c3 c4
    cases v1
    · go_wp2
      go_ret
      refine ⟨_, rfl, ?_, F4.out⟩
      rw [HOK.out]
      have hh := Hv1.out
      simp [okUs, hh]
    · by_cases hn0 : nu < 0
      · have u0 : decide (nu < 0) = true := decide_eq_true hn0
        have U0 := Lib.hid hn0
        clear hn0
        go_upto_region 8 with fail
        refine wp_region_st 22 Nothing [Is (.pointer (some ⟨gb, 2, none⟩)), Is (.int .i64 nu), Is (.bool true), Is (.bool true), Is (undef), Is (undef), Is (undef), Is (.bool true), Is (.bool true), Is (undef), Is (undef), Is (undef), Is (.bool true), Is (.bool true), Is (undef), Is (undef), Is (undef), Is (undef), Is (undef), Is (undef), Is (.bool true), Is (.bool true)] [] (fun _ => True) (fun _ _ => false) (by kernel_rfl) (by kernel_rfl) (by kernel_rfl) (by kernel_rfl) ⟨Is.stable _, Is.stable _, Is.stable _, Is.stable _, Is.stable _, Is.stable _, Is.stable _, Is.stable _, Is.stable _, Is.stable _, Is.stable _, Is.stable _, Is.stable _, Is.stable _, Is.stable _, Is.stable _, Is.stable _, Is.stable _, Is.stable _, Is.stable _, Is.stable _, Is.stable _, trivial⟩ trivial (fun _ _ _ _ h => h) trivial ?_ ?_
        · refine ⟨?a18_0, ?a18_1, ?a18_2, ?a18_3, ?a18_4, ?a18_5, ?a18_6, ?a18_7, ?a18_8, ?a18_9, ?a18_10, ?a18_11, ?a18_12, ?a18_13, ?a18_14, ?a18_15, ?a18_16, ?a18_17, ?a18_18, ?a18_19, ?a18_20, ?a18_21, trivial⟩
          all_goals intro u w' d hf hR k1 k0 kM
          all_goals simp only [List.take_succ_cons, List.take_zero, List.map_cons, List.map_nil, puts, Act.put, List.setIfInBounds_toArray, List.set_cons_zero, List.set_cons_succ, Nat.reduceAdd, Nat.zero_add]
          case a18_1 =>
            simp only [show u 0 = _ from hR 0 (by kernel_rfl)]
            clear hR k1 k0 kM
            refine .inl ⟨by kernel_rfl, ?_⟩
            have q := hf.cellSome (n2.out) (fun x => x)
            go_simp
            exact ⟨_, rfl, Fr.refl _ _, rfl, trivial⟩
          case' a18_2 => simp only [show u 1 = _ from hR 1 (by kernel_rfl)]
          case' a18_3 => simp only [show u 2 = _ from hR 2 (by kernel_rfl)]
          case a18_4 => simp only [show u 3 = _ from hR 3 (by kernel_rfl)]; exact .inr ⟨by kernel_rfl, _, rfl, Fr.refl _ _, rfl, trivial⟩
          case a18_5 => simp only [show u 3 = _ from hR 3 (by kernel_rfl)]; exact .inr ⟨by kernel_rfl, _, rfl, Fr.refl _ _, rfl, trivial⟩
          case a18_6 => simp only [show u 3 = _ from hR 3 (by kernel_rfl)]; exact .inr ⟨by kernel_rfl, _, rfl, Fr.refl _ _, rfl, trivial⟩
          case' a18_7 => simp only [show u 3 = _ from hR 3 (by kernel_rfl), show u 6 = _ from hR 6 (by kernel_rfl)]
          case' a18_8 => simp only [show u 7 = _ from hR 7 (by kernel_rfl)]
          case a18_9 => simp only [show u 8 = _ from hR 8 (by kernel_rfl)]; exact .inr ⟨by kernel_rfl, _, rfl, Fr.refl _ _, rfl, trivial⟩
          case a18_10 => simp only [show u 8 = _ from hR 8 (by kernel_rfl)]; exact .inr ⟨by kernel_rfl, _, rfl, Fr.refl _ _, rfl, trivial⟩
          case a18_11 => simp only [show u 8 = _ from hR 8 (by kernel_rfl)]; exact .inr ⟨by kernel_rfl, _, rfl, Fr.refl _ _, rfl, trivial⟩
          case' a18_12 => simp only [show u 8 = _ from hR 8 (by kernel_rfl), show u 11 = _ from hR 11 (by kernel_rfl)]
          case' a18_13 => simp only [show u 12 = _ from hR 12 (by kernel_rfl)]
          case a18_14 => simp only [show u 13 = _ from hR 13 (by kernel_rfl)]; exact .inr ⟨by kernel_rfl, _, rfl, Fr.refl _ _, rfl, trivial⟩
          case a18_15 => simp only [show u 13 = _ from hR 13 (by kernel_rfl)]; exact .inr ⟨by kernel_rfl, _, rfl, Fr.refl _ _, rfl, trivial⟩
          case a18_16 => simp only [show u 13 = _ from hR 13 (by kernel_rfl)]; exact .inr ⟨by kernel_rfl, _, rfl, Fr.refl _ _, rfl, trivial⟩
          case a18_17 => simp only [show u 13 = _ from hR 13 (by kernel_rfl)]; exact .inr ⟨by kernel_rfl, _, rfl, Fr.refl _ _, rfl, trivial⟩
          case a18_18 => simp only [show u 13 = _ from hR 13 (by kernel_rfl)]; exact .inr ⟨by kernel_rfl, _, rfl, Fr.refl _ _, rfl, trivial⟩
          case a18_19 => simp only [show u 13 = _ from hR 13 (by kernel_rfl)]; exact .inr ⟨by kernel_rfl, _, rfl, Fr.refl _ _, rfl, trivial⟩
          case' a18_20 => simp only [show u 13 = _ from hR 13 (by kernel_rfl), show u 19 = _ from hR 19 (by kernel_rfl)]
          case' a18_21 => simp only [show u 20 = _ from hR 20 (by kernel_rfl)]
          all_goals
            clear hR k1 k0 kM
            refine .inl ⟨by kernel_rfl, ?_⟩
            go_simp
            exact ⟨_, rfl, Fr.refl _ _, rfl, trivial⟩
        · intro u w' hf hR kM
          have k21 : u 21 = _ := hR 21 (by omega)
          clear hR kM
          simp only [List.take_succ_cons, List.take_zero, List.map_cons, List.map_nil, puts, Act.put, List.setIfInBounds_toArray, List.set_cons_zero, List.set_cons_succ, List.drop_succ_cons, List.drop_zero, Nat.reduceAdd, Nat.zero_add, k21]
          have FA := Lib.hid (F4.out.trans hf)
          have m4 := hf.cellSome n4.out (fun x => x)
          clear hf k21 n2 n3 n4
          go_wp2
          go_ret
          refine ⟨_, rfl, ?_, FA.out⟩
          rw [HOK.out]
          have hh : (decide (0 ≤ nu) && decide (nu ≤ 1073741824)) = false := by rw [decide_eq_false (by have := U0.out; omega)]; rfl
          rw [okUs]
          simp only [hh]
          simp
      have u0 : decide (nu < 0) = false := decide_eq_false hn0
      by_cases hn1 : 1073741824 < nu
      · have u1 : decide (1073741824 < nu) = true := decide_eq_true hn1
        have U1 := Lib.hid hn1
        clear hn0 hn1
        go_upto_region 8 with fail
        refine wp_region_st 22 Nothing [Is (.pointer (some ⟨gb, 2, none⟩)), Is (.int .i64 nu), Is (.bool false), Is (.bool false), Is (.pointer (some ⟨gb, 2, none⟩)), Is (.int .i64 nu), Is (.bool true), Is (.bool true), Is (.bool true), Is (undef), Is (undef), Is (undef), Is (.bool true), Is (.bool true), Is (undef), Is (undef), Is (undef), Is (undef), Is (undef), Is (undef), Is (.bool true), Is (.bool true)] [] (fun _ => True) (fun _ _ => false) (by kernel_rfl) (by kernel_rfl) (by kernel_rfl) (by kernel_rfl) ⟨Is.stable _, Is.stable _, Is.stable _, Is.stable _, Is.stable _, Is.stable _, Is.stable _, Is.stable _, Is.stable _, Is.stable _, Is.stable _, Is.stable _, Is.stable _, Is.stable _, Is.stable _, Is.stable _, Is.stable _, Is.stable _, Is.stable _, Is.stable _, Is.stable _, Is.stable _, trivial⟩ trivial (fun _ _ _ _ h => h) trivial ?_ ?_
        · refine ⟨?a19_0, ?a19_1, ?a19_2, ?a19_3, ?a19_4, ?a19_5, ?a19_6, ?a19_7, ?a19_8, ?a19_9, ?a19_10, ?a19_11, ?a19_12, ?a19_13, ?a19_14, ?a19_15, ?a19_16, ?a19_17, ?a19_18, ?a19_19, ?a19_20, ?a19_21, trivial⟩
          all_goals intro u w' d hf hR k1 k0 kM
          all_goals simp only [List.take_succ_cons, List.take_zero, List.map_cons, List.map_nil, puts, Act.put, List.setIfInBounds_toArray, List.set_cons_zero, List.set_cons_succ, Nat.reduceAdd, Nat.zero_add]
          case a19_1 =>
            simp only [show u 0 = _ from hR 0 (by kernel_rfl)]
            clear hR k1 k0 kM
            refine .inl ⟨by kernel_rfl, ?_⟩
            have q := hf.cellSome (n2.out) (fun x => x)
            go_simp
            exact ⟨_, rfl, Fr.refl _ _, rfl, trivial⟩
          case' a19_2 => simp only [show u 1 = _ from hR 1 (by kernel_rfl)]
          case' a19_3 => simp only [show u 2 = _ from hR 2 (by kernel_rfl)]
          case' a19_4 => simp only [show u 3 = _ from hR 3 (by kernel_rfl)]
          case a19_5 =>
            simp only [show u 4 = _ from hR 4 (by kernel_rfl), show u 3 = _ from hR 3 (by kernel_rfl)]
            clear hR k1 k0 kM
            refine .inl ⟨by kernel_rfl, ?_⟩
            have q := hf.cellSome (n2.out) (fun x => x)
            go_simp
            exact ⟨_, rfl, Fr.refl _ _, rfl, trivial⟩
          case' a19_6 => simp only [show u 5 = _ from hR 5 (by kernel_rfl), show u 3 = _ from hR 3 (by kernel_rfl)]
          case' a19_7 => simp only [show u 3 = _ from hR 3 (by kernel_rfl), show u 6 = _ from hR 6 (by kernel_rfl)]
          case' a19_8 => simp only [show u 7 = _ from hR 7 (by kernel_rfl)]
          case a19_9 => simp only [show u 8 = _ from hR 8 (by kernel_rfl)]; exact .inr ⟨by kernel_rfl, _, rfl, Fr.refl _ _, rfl, trivial⟩
          case a19_10 => simp only [show u 8 = _ from hR 8 (by kernel_rfl)]; exact .inr ⟨by kernel_rfl, _, rfl, Fr.refl _ _, rfl, trivial⟩
          case a19_11 => simp only [show u 8 = _ from hR 8 (by kernel_rfl)]; exact .inr ⟨by kernel_rfl, _, rfl, Fr.refl _ _, rfl, trivial⟩
          case' a19_12 => simp only [show u 8 = _ from hR 8 (by kernel_rfl), show u 11 = _ from hR 11 (by kernel_rfl)]
          case' a19_13 => simp only [show u 12 = _ from hR 12 (by kernel_rfl)]
          case a19_14 => simp only [show u 13 = _ from hR 13 (by kernel_rfl)]; exact .inr ⟨by kernel_rfl, _, rfl, Fr.refl _ _, rfl, trivial⟩
          case a19_15 => simp only [show u 13 = _ from hR 13 (by kernel_rfl)]; exact .inr ⟨by kernel_rfl, _, rfl, Fr.refl _ _, rfl, trivial⟩
          case a19_16 => simp only [show u 13 = _ from hR 13 (by kernel_rfl)]; exact .inr ⟨by kernel_rfl, _, rfl, Fr.refl _ _, rfl, trivial⟩
          case a19_17 => simp only [show u 13 = _ from hR 13 (by kernel_rfl)]; exact .inr ⟨by kernel_rfl, _, rfl, Fr.refl _ _, rfl, trivial⟩
          case a19_18 => simp only [show u 13 = _ from hR 13 (by kernel_rfl)]; exact .inr ⟨by kernel_rfl, _, rfl, Fr.refl _ _, rfl, trivial⟩
          case a19_19 => simp only [show u 13 = _ from hR 13 (by kernel_rfl)]; exact .inr ⟨by kernel_rfl, _, rfl, Fr.refl _ _, rfl, trivial⟩
          case' a19_20 => simp only [show u 13 = _ from hR 13 (by kernel_rfl), show u 19 = _ from hR 19 (by kernel_rfl)]
          case' a19_21 => simp only [show u 20 = _ from hR 20 (by kernel_rfl)]
          all_goals
            clear hR k1 k0 kM
            refine .inl ⟨by kernel_rfl, ?_⟩
            go_simp
            exact ⟨_, rfl, Fr.refl _ _, rfl, trivial⟩
        · intro u w' hf hR kM
          have k21 : u 21 = _ := hR 21 (by omega)
          clear hR kM
          simp only [List.take_succ_cons, List.take_zero, List.map_cons, List.map_nil, puts, Act.put, List.setIfInBounds_toArray, List.set_cons_zero, List.set_cons_succ, List.drop_succ_cons, List.drop_zero, Nat.reduceAdd, Nat.zero_add, k21]
          have FA := Lib.hid (F4.out.trans hf)
          have m4 := hf.cellSome n4.out (fun x => x)
          clear hf k21 n2 n3 n4
          go_wp2
          go_ret
          refine ⟨_, rfl, ?_, FA.out⟩
          rw [HOK.out]
          have hh : (decide (0 ≤ nu) && decide (nu ≤ 1073741824)) = false := by rw [decide_eq_false (show ¬ nu ≤ 1073741824 by have := U1.out; omega)]; simp
          rw [okUs]
          simp only [hh]
          simp
      have u1 : decide (1073741824 < nu) = false := decide_eq_false hn1
      have HNU : Hid ((decide (0 ≤ nu) && decide (nu ≤ 1073741824)) = true) := by simp only [Hid]; rw [decide_eq_true (show 0 ≤ nu by omega), decide_eq_true (show nu ≤ 1073741824 by omega)]; rfl
      clear hn0 hn1
      by_cases hi0 : ix < 0
      · have v0 : decide (ix < 0) = true := decide_eq_true hi0
        have V0 := Lib.hid hi0
        clear hi0
        go_upto_region 8 with fail
        refine wp_region_st 22 Nothing [Is (.pointer (some ⟨gb, 2, none⟩)), Is (.int .i64 nu), Is (.bool false), Is (.bool false), Is (.pointer (some ⟨gb, 2, none⟩)), Is (.int .i64 nu), Is (.bool false), Is (.bool false), Is (.bool false), Is (.pointer (some ⟨gb, 3, none⟩)), Is (.int .i64 ix), Is (.bool true), Is (.bool true), Is (.bool true), Is (undef), Is (undef), Is (undef), Is (undef), Is (undef), Is (undef), Is (.bool true), Is (.bool true)] [] (fun _ => True) (fun _ _ => false) (by kernel_rfl) (by kernel_rfl) (by kernel_rfl) (by kernel_rfl) ⟨Is.stable _, Is.stable _, Is.stable _, Is.stable _, Is.stable _, Is.stable _, Is.stable _, Is.stable _, Is.stable _, Is.stable _, Is.stable _, Is.stable _, Is.stable _, Is.stable _, Is.stable _, Is.stable _, Is.stable _, Is.stable _, Is.stable _, Is.stable _, Is.stable _, Is.stable _, trivial⟩ trivial (fun _ _ _ _ h => h) trivial ?_ ?_
        · refine ⟨?a20_0, ?a20_1, ?a20_2, ?a20_3, ?a20_4, ?a20_5, ?a20_6, ?a20_7, ?a20_8, ?a20_9, ?a20_10, ?a20_11, ?a20_12, ?a20_13, ?a20_14, ?a20_15, ?a20_16, ?a20_17, ?a20_18, ?a20_19, ?a20_20, ?a20_21, trivial⟩
          all_goals intro u w' d hf hR k1 k0 kM
          all_goals simp only [List.take_succ_cons, List.take_zero, List.map_cons, List.map_nil, puts, Act.put, List.setIfInBounds_toArray, List.set_cons_zero, List.set_cons_succ, Nat.reduceAdd, Nat.zero_add]
          case a20_1 =>
            simp only [show u 0 = _ from hR 0 (by kernel_rfl)]
            clear hR k1 k0 kM
            refine .inl ⟨by kernel_rfl, ?_⟩
            have q := hf.cellSome (n2.out) (fun x => x)
            go_simp
            exact ⟨_, rfl, Fr.refl _ _, rfl, trivial⟩
          case' a20_2 => simp only [show u 1 = _ from hR 1 (by kernel_rfl)]
          case' a20_3 => simp only [show u 2 = _ from hR 2 (by kernel_rfl)]
          case' a20_4 => simp only [show u 3 = _ from hR 3 (by kernel_rfl)]
          case a20_5 =>
            simp only [show u 4 = _ from hR 4 (by kernel_rfl), show u 3 = _ from hR 3 (by kernel_rfl)]
            clear hR k1 k0 kM
            refine .inl ⟨by kernel_rfl, ?_⟩
            have q := hf.cellSome (n2.out) (fun x => x)
            go_simp
            exact ⟨_, rfl, Fr.refl _ _, rfl, trivial⟩
          case' a20_6 => simp only [show u 5 = _ from hR 5 (by kernel_rfl), show u 3 = _ from hR 3 (by kernel_rfl)]
          case' a20_7 => simp only [show u 3 = _ from hR 3 (by kernel_rfl), show u 6 = _ from hR 6 (by kernel_rfl)]
          case' a20_8 => simp only [show u 7 = _ from hR 7 (by kernel_rfl)]
          case' a20_9 => simp only [show u 8 = _ from hR 8 (by kernel_rfl)]
          case a20_10 =>
            simp only [show u 9 = _ from hR 9 (by kernel_rfl), show u 8 = _ from hR 8 (by kernel_rfl)]
            clear hR k1 k0 kM
            refine .inl ⟨by kernel_rfl, ?_⟩
            have q := hf.cellSome (n3.out) (fun x => x)
            go_simp
            exact ⟨_, rfl, Fr.refl _ _, rfl, trivial⟩
          case' a20_11 => simp only [show u 10 = _ from hR 10 (by kernel_rfl), show u 8 = _ from hR 8 (by kernel_rfl)]
          case' a20_12 => simp only [show u 8 = _ from hR 8 (by kernel_rfl), show u 11 = _ from hR 11 (by kernel_rfl)]
          case' a20_13 => simp only [show u 12 = _ from hR 12 (by kernel_rfl)]
          case a20_14 => simp only [show u 13 = _ from hR 13 (by kernel_rfl)]; exact .inr ⟨by kernel_rfl, _, rfl, Fr.refl _ _, rfl, trivial⟩
          case a20_15 => simp only [show u 13 = _ from hR 13 (by kernel_rfl)]; exact .inr ⟨by kernel_rfl, _, rfl, Fr.refl _ _, rfl, trivial⟩
          case a20_16 => simp only [show u 13 = _ from hR 13 (by kernel_rfl)]; exact .inr ⟨by kernel_rfl, _, rfl, Fr.refl _ _, rfl, trivial⟩
          case a20_17 => simp only [show u 13 = _ from hR 13 (by kernel_rfl)]; exact .inr ⟨by kernel_rfl, _, rfl, Fr.refl _ _, rfl, trivial⟩
          case a20_18 => simp only [show u 13 = _ from hR 13 (by kernel_rfl)]; exact .inr ⟨by kernel_rfl, _, rfl, Fr.refl _ _, rfl, trivial⟩
          case a20_19 => simp only [show u 13 = _ from hR 13 (by kernel_rfl)]; exact .inr ⟨by kernel_rfl, _, rfl, Fr.refl _ _, rfl, trivial⟩
          case' a20_20 => simp only [show u 13 = _ from hR 13 (by kernel_rfl), show u 19 = _ from hR 19 (by kernel_rfl)]
          case' a20_21 => simp only [show u 20 = _ from hR 20 (by kernel_rfl)]
          all_goals
            clear hR k1 k0 kM
            refine .inl ⟨by kernel_rfl, ?_⟩
            go_simp
            exact ⟨_, rfl, Fr.refl _ _, rfl, trivial⟩
        · intro u w' hf hR kM
          have k21 : u 21 = _ := hR 21 (by omega)
          clear hR kM
          simp only [List.take_succ_cons, List.take_zero, List.map_cons, List.map_nil, puts, Act.put, List.setIfInBounds_toArray, List.set_cons_zero, List.set_cons_succ, List.drop_succ_cons, List.drop_zero, Nat.reduceAdd, Nat.zero_add, k21]
          have FA := Lib.hid (F4.out.trans hf)
          have m4 := hf.cellSome n4.out (fun x => x)
          clear hf k21 n2 n3 n4
          go_wp2
          go_ret
          refine ⟨_, rfl, ?_, FA.out⟩
          rw [HOK.out]
          have hh : (decide (0 ≤ ix) && decide (ix ≤ mo)) = false := by rw [decide_eq_false (by have := V0.out; omega)]; rfl
          rw [okUs]
          simp only [hh]
          simp
      have v0 : decide (ix < 0) = false := decide_eq_false hi0
      by_cases hi1 : mo < ix
      · have v1 : decide (mo < ix) = true := decide_eq_true hi1
        have V1 := Lib.hid hi1
        clear hi0 hi1
        go_upto_region 8 with fail
        refine wp_region_st 22 Nothing [Is (.pointer (some ⟨gb, 2, none⟩)), Is (.int .i64 nu), Is (.bool false), Is (.bool false), Is (.pointer (some ⟨gb, 2, none⟩)), Is (.int .i64 nu), Is (.bool false), Is (.bool false), Is (.bool false), Is (.pointer (some ⟨gb, 3, none⟩)), Is (.int .i64 ix), Is (.bool false), Is (.bool false), Is (.bool false), Is (.pointer (some ⟨gb, 3, none⟩)), Is (.int .i64 ix), Is (.int .i64 (k : Int)), Is (.int .i64 mq), Is (.int .i64 mo), Is (.bool true), Is (.bool true), Is (.bool true)] [] (fun _ => True) (fun _ _ => false) (by kernel_rfl) (by kernel_rfl) (by kernel_rfl) (by kernel_rfl) ⟨Is.stable _, Is.stable _, Is.stable _, Is.stable _, Is.stable _, Is.stable _, Is.stable _, Is.stable _, Is.stable _, Is.stable _, Is.stable _, Is.stable _, Is.stable _, Is.stable _, Is.stable _, Is.stable _, Is.stable _, Is.stable _, Is.stable _, Is.stable _, Is.stable _, Is.stable _, trivial⟩ trivial (fun _ _ _ _ h => h) trivial ?_ ?_
        · refine ⟨?a21_0, ?a21_1, ?a21_2, ?a21_3, ?a21_4, ?a21_5, ?a21_6, ?a21_7, ?a21_8, ?a21_9, ?a21_10, ?a21_11, ?a21_12, ?a21_13, ?a21_14, ?a21_15, ?a21_16, ?a21_17, ?a21_18, ?a21_19, ?a21_20, ?a21_21, trivial⟩
          all_goals intro u w' d hf hR k1 k0 kM
          all_goals simp only [List.take_succ_cons, List.take_zero, List.map_cons, List.map_nil, puts, Act.put, List.setIfInBounds_toArray, List.set_cons_zero, List.set_cons_succ, Nat.reduceAdd, Nat.zero_add]
          case a21_1 =>
            simp only [show u 0 = _ from hR 0 (by kernel_rfl)]
            clear hR k1 k0 kM
            refine .inl ⟨by kernel_rfl, ?_⟩
            have q := hf.cellSome (n2.out) (fun x => x)
            go_simp
            exact ⟨_, rfl, Fr.refl _ _, rfl, trivial⟩
          case' a21_2 => simp only [show u 1 = _ from hR 1 (by kernel_rfl)]
          case' a21_3 => simp only [show u 2 = _ from hR 2 (by kernel_rfl)]
          case' a21_4 => simp only [show u 3 = _ from hR 3 (by kernel_rfl)]
          case a21_5 =>
            simp only [show u 4 = _ from hR 4 (by kernel_rfl), show u 3 = _ from hR 3 (by kernel_rfl)]
            clear hR k1 k0 kM
            refine .inl ⟨by kernel_rfl, ?_⟩
            have q := hf.cellSome (n2.out) (fun x => x)
            go_simp
            exact ⟨_, rfl, Fr.refl _ _, rfl, trivial⟩
          case' a21_6 => simp only [show u 5 = _ from hR 5 (by kernel_rfl), show u 3 = _ from hR 3 (by kernel_rfl)]
          case' a21_7 => simp only [show u 3 = _ from hR 3 (by kernel_rfl), show u 6 = _ from hR 6 (by kernel_rfl)]
          case' a21_8 => simp only [show u 7 = _ from hR 7 (by kernel_rfl)]
          case' a21_9 => simp only [show u 8 = _ from hR 8 (by kernel_rfl)]
          case a21_10 =>
            simp only [show u 9 = _ from hR 9 (by kernel_rfl), show u 8 = _ from hR 8 (by kernel_rfl)]
            clear hR k1 k0 kM
            refine .inl ⟨by kernel_rfl, ?_⟩
            have q := hf.cellSome (n3.out) (fun x => x)
            go_simp
            exact ⟨_, rfl, Fr.refl _ _, rfl, trivial⟩
          case' a21_11 => simp only [show u 10 = _ from hR 10 (by kernel_rfl), show u 8 = _ from hR 8 (by kernel_rfl)]
          case' a21_12 => simp only [show u 8 = _ from hR 8 (by kernel_rfl), show u 11 = _ from hR 11 (by kernel_rfl)]
          case' a21_13 => simp only [show u 12 = _ from hR 12 (by kernel_rfl)]
          case' a21_14 => simp only [show u 13 = _ from hR 13 (by kernel_rfl)]
          case a21_15 =>
            simp only [show u 14 = _ from hR 14 (by kernel_rfl), show u 13 = _ from hR 13 (by kernel_rfl)]
            clear hR k1 k0 kM
            refine .inl ⟨by kernel_rfl, ?_⟩
            have q := hf.cellSome (n3.out) (fun x => x)
            go_simp
            exact ⟨_, rfl, Fr.refl _ _, rfl, trivial⟩
          case' a21_16 => simp only [show u 13 = _ from hR 13 (by kernel_rfl)]
          case a21_17 =>
            simp only [show u 16 = _ from hR 16 (by kernel_rfl), show u 13 = _ from hR 13 (by kernel_rfl)]
            clear hR k1 k0 kM
            refine .inl ⟨by kernel_rfl, ?_⟩
            go_simp
            refine (CM.out _).mono ?_
            rintro e w9 ⟨rfl, rfl⟩
            exact ⟨_, rfl, Fr.refl _ _, rfl, trivial⟩
          case a21_18 =>
            simp only [show u 17 = _ from hR 17 (by kernel_rfl), show u 13 = _ from hR 13 (by kernel_rfl)]
            clear hR k1 k0 kM
            refine .inl ⟨by kernel_rfl, ?_⟩
            have q := HMX.out
            go_simp
            exact ⟨_, rfl, Fr.refl _ _, rfl, trivial⟩
          case' a21_19 => simp only [show u 15 = _ from hR 15 (by kernel_rfl), show u 18 = _ from hR 18 (by kernel_rfl), show u 13 = _ from hR 13 (by kernel_rfl)]
          case' a21_20 => simp only [show u 13 = _ from hR 13 (by kernel_rfl), show u 19 = _ from hR 19 (by kernel_rfl)]
          case' a21_21 => simp only [show u 20 = _ from hR 20 (by kernel_rfl)]
          all_goals
            clear hR k1 k0 kM
            refine .inl ⟨by kernel_rfl, ?_⟩
            go_simp
            exact ⟨_, rfl, Fr.refl _ _, rfl, trivial⟩
        · intro u w' hf hR kM
          have k21 : u 21 = _ := hR 21 (by omega)
          clear hR kM
          simp only [List.take_succ_cons, List.take_zero, List.map_cons, List.map_nil, puts, Act.put, List.setIfInBounds_toArray, List.set_cons_zero, List.set_cons_succ, List.drop_succ_cons, List.drop_zero, Nat.reduceAdd, Nat.zero_add, k21]
          have FA := Lib.hid (F4.out.trans hf)
          have m4 := hf.cellSome n4.out (fun x => x)
          clear hf k21 n2 n3 n4
          go_wp2
          go_ret
          refine ⟨_, rfl, ?_, FA.out⟩
          rw [HOK.out]
          have hh : (decide (0 ≤ ix) && decide (ix ≤ mo)) = false := by rw [decide_eq_false (show ¬ ix ≤ mo by have := V1.out; omega)]; simp
          rw [okUs]
          simp only [hh]
          simp
      have v1 : decide (mo < ix) = false := decide_eq_false hi1
      have HIX : Hid ((decide (0 ≤ ix) && decide (ix ≤ mo)) = true) := by simp only [Hid]; rw [decide_eq_true (show 0 ≤ ix by omega), decide_eq_true (show ix ≤ mo by omega)]; rfl
      clear hi0 hi1
      go_upto_region 8 with fail
      refine wp_region_st 22 Nothing [Is (.pointer (some ⟨gb, 2, none⟩)), Is (.int .i64 nu), Is (.bool false), Is (.bool false), Is (.pointer (some ⟨gb, 2, none⟩)), Is (.int .i64 nu), Is (.bool false), Is (.bool false), Is (.bool false), Is (.pointer (some ⟨gb, 3, none⟩)), Is (.int .i64 ix), Is (.bool false), Is (.bool false), Is (.bool false), Is (.pointer (some ⟨gb, 3, none⟩)), Is (.int .i64 ix), Is (.int .i64 (k : Int)), Is (.int .i64 mq), Is (.int .i64 mo), Is (.bool false), Is (.bool false), Is (.bool false)] [] (fun _ => True) (fun _ _ => false) (by kernel_rfl) (by kernel_rfl) (by kernel_rfl) (by kernel_rfl) ⟨Is.stable _, Is.stable _, Is.stable _, Is.stable _, Is.stable _, Is.stable _, Is.stable _, Is.stable _, Is.stable _, Is.stable _, Is.stable _, Is.stable _, Is.stable _, Is.stable _, Is.stable _, Is.stable _, Is.stable _, Is.stable _, Is.stable _, Is.stable _, Is.stable _, Is.stable _, trivial⟩ trivial (fun _ _ _ _ h => h) trivial ?_ ?_
      · refine ⟨?a22_0, ?a22_1, ?a22_2, ?a22_3, ?a22_4, ?a22_5, ?a22_6, ?a22_7, ?a22_8, ?a22_9, ?a22_10, ?a22_11, ?a22_12, ?a22_13, ?a22_14, ?a22_15, ?a22_16, ?a22_17, ?a22_18, ?a22_19, ?a22_20, ?a22_21, trivial⟩
        all_goals intro u w' d hf hR k1 k0 kM
        all_goals simp only [List.take_succ_cons, List.take_zero, List.map_cons, List.map_nil, puts, Act.put, List.setIfInBounds_toArray, List.set_cons_zero, List.set_cons_succ, Nat.reduceAdd, Nat.zero_add]
        case a22_1 =>
          simp only [show u 0 = _ from hR 0 (by kernel_rfl)]
          clear hR k1 k0 kM
          refine .inl ⟨by kernel_rfl, ?_⟩
          have q := hf.cellSome (n2.out) (fun x => x)
          go_simp
          exact ⟨_, rfl, Fr.refl _ _, rfl, trivial⟩
        case' a22_2 => simp only [show u 1 = _ from hR 1 (by kernel_rfl)]
        case' a22_3 => simp only [show u 2 = _ from hR 2 (by kernel_rfl)]
        case' a22_4 => simp only [show u 3 = _ from hR 3 (by kernel_rfl)]
        case a22_5 =>
          simp only [show u 4 = _ from hR 4 (by kernel_rfl), show u 3 = _ from hR 3 (by kernel_rfl)]
          clear hR k1 k0 kM
          refine .inl ⟨by kernel_rfl, ?_⟩
          have q := hf.cellSome (n2.out) (fun x => x)
          go_simp
          exact ⟨_, rfl, Fr.refl _ _, rfl, trivial⟩
        case' a22_6 => simp only [show u 5 = _ from hR 5 (by kernel_rfl), show u 3 = _ from hR 3 (by kernel_rfl)]
        case' a22_7 => simp only [show u 3 = _ from hR 3 (by kernel_rfl), show u 6 = _ from hR 6 (by kernel_rfl)]
        case' a22_8 => simp only [show u 7 = _ from hR 7 (by kernel_rfl)]
        case' a22_9 => simp only [show u 8 = _ from hR 8 (by kernel_rfl)]
        case a22_10 =>
          simp only [show u 9 = _ from hR 9 (by kernel_rfl), show u 8 = _ from hR 8 (by kernel_rfl)]
          clear hR k1 k0 kM
          refine .inl ⟨by kernel_rfl, ?_⟩
          have q := hf.cellSome (n3.out) (fun x => x)
          go_simp
          exact ⟨_, rfl, Fr.refl _ _, rfl, trivial⟩
        case' a22_11 => simp only [show u 10 = _ from hR 10 (by kernel_rfl), show u 8 = _ from hR 8 (by kernel_rfl)]
        case' a22_12 => simp only [show u 8 = _ from hR 8 (by kernel_rfl), show u 11 = _ from hR 11 (by kernel_rfl)]
        case' a22_13 => simp only [show u 12 = _ from hR 12 (by kernel_rfl)]
        case' a22_14 => simp only [show u 13 = _ from hR 13 (by kernel_rfl)]
        case a22_15 =>
          simp only [show u 14 = _ from hR 14 (by kernel_rfl), show u 13 = _ from hR 13 (by kernel_rfl)]
          clear hR k1 k0 kM
          refine .inl ⟨by kernel_rfl, ?_⟩
          have q := hf.cellSome (n3.out) (fun x => x)
          go_simp
          exact ⟨_, rfl, Fr.refl _ _, rfl, trivial⟩
        case' a22_16 => simp only [show u 13 = _ from hR 13 (by kernel_rfl)]
        case a22_17 =>
          simp only [show u 16 = _ from hR 16 (by kernel_rfl), show u 13 = _ from hR 13 (by kernel_rfl)]
          clear hR k1 k0 kM
          refine .inl ⟨by kernel_rfl, ?_⟩
          go_simp
          refine (CM.out _).mono ?_
          rintro e w9 ⟨rfl, rfl⟩
          exact ⟨_, rfl, Fr.refl _ _, rfl, trivial⟩
        case a22_18 =>
          simp only [show u 17 = _ from hR 17 (by kernel_rfl), show u 13 = _ from hR 13 (by kernel_rfl)]
          clear hR k1 k0 kM
          refine .inl ⟨by kernel_rfl, ?_⟩
          have q := HMX.out
          go_simp
          exact ⟨_, rfl, Fr.refl _ _, rfl, trivial⟩
        case' a22_19 => simp only [show u 15 = _ from hR 15 (by kernel_rfl), show u 18 = _ from hR 18 (by kernel_rfl), show u 13 = _ from hR 13 (by kernel_rfl)]
        case' a22_20 => simp only [show u 13 = _ from hR 13 (by kernel_rfl), show u 19 = _ from hR 19 (by kernel_rfl)]
        case' a22_21 => simp only [show u 20 = _ from hR 20 (by kernel_rfl)]
        all_goals
          clear hR k1 k0 kM
          refine .inl ⟨by kernel_rfl, ?_⟩
          go_simp
          exact ⟨_, rfl, Fr.refl _ _, rfl, trivial⟩
      · intro u w' hf hR kM
        have k21 : u 21 = _ := hR 21 (by omega)
        clear hR kM
        simp only [List.take_succ_cons, List.take_zero, List.map_cons, List.map_nil, puts, Act.put, List.setIfInBounds_toArray, List.set_cons_zero, List.set_cons_succ, List.drop_succ_cons, List.drop_zero, Nat.reduceAdd, Nat.zero_add, k21]
        have FA := Lib.hid (F4.out.trans hf)
        have m4 := hf.cellSome n4.out (fun x => x)
        clear hf k21 n2 n3 n4
        go_wp2_with fail
        refine (CT.out _).mono ?_
        rintro e w9 ⟨rfl, rfl⟩
        go_wp2
        go_ret
        refine ⟨_, rfl, ?_, FA.out⟩
        rw [HOK.out]
        rw [okUs]
        simp only [He_tx.out, Hv1.out, HNU.out, HIX.out]
        simp
set_option maxRecDepth 100000 in
set_option maxHeartbeats 8000000 in
theorem rCheck_1101 (k : Nat) (ow : ByteArray) (nu ix : Int) (tx wd : ByteArray) (mo : Int) (w : World) (hk : 1 ≤ k ∧ k ≤ 20) (hu : usaL[k]? = some ⟨wd, true, true, false, true, mo⟩) (ho : ow.size ≤ 1099511627776) (ht : tx.size ≤ 1099511627776) (_hmo : 0 ≤ mo) (hmo0 : mo = 0) :
    Calls Tryd.prog 80 #[.agg #[.int .i64 (k : Int), .string ow, .int .i64 nu, .int .i64 ix, .string tx]] w (Checked w ⟨(k : Int), ow, nu, ix, tx⟩) := by
  have HOK : Hid (okNm ⟨(k : Int), ow, nu, ix, tx⟩ = okUs ⟨wd, true, true, false, true, mo⟩ ⟨(k : Int), ow, nu, ix, tx⟩) := by
    simp only [Hid, okNm, Int.toNat_natCast, hu]
    rw [decide_eq_true (show (1 : Int) ≤ (k : Int) by omega), decide_eq_true (show (k : Int) ≤ 20 by omega)]
    rfl
  have HOW := Lib.hid ho
  have HTX := Lib.hid ht
  have CO : Hid (∀ w, Calls Tryd.prog 97 #[.int .i64 (k : Int)] w (SameW w (.bool true))) := fun w => rOwned_any k _ w hk hu
  have CN : Hid (∀ w, Calls Tryd.prog 99 #[.int .i64 (k : Int)] w (SameW w (.bool true))) := fun w => rNumbered_any k _ w hk hu
  have CT : Hid (∀ w, Calls Tryd.prog 101 #[.int .i64 (k : Int)] w (SameW w (.bool true))) := fun w => rTexted_any k _ w hk hu
  obtain ⟨mq, hmq⟩ : ∃ mq : Int, mq = (if false = true then mo else -1) := ⟨_, rfl⟩
  have CM : Hid (∀ w, Calls Tryd.prog 100 #[.int .i64 (k : Int)] w (SameW w (.int .i64 mq))) := fun w => by rw [hmq]; exact rMost_any k _ w hk hu
  have hmq2 : mq = -1 := by rw [hmq]; simp
  have tq : decide (mq < 0) = true := decide_eq_true (by omega)
  have HMX : Hid (max mq 0 = mo) := by simp only [Hid]; omega
  have k1 : decide ((k : Int) < 1) = false := decide_eq_false (by omega)
  have k1' : ¬ (k : Int) < 1 := by omega
  have k2 : decide ((20 : Int) < (k : Int)) = false := decide_eq_false (by omega)
  have k2' : ¬ (20 : Int) < (k : Int) := by omega
  clear hk hu ho ht hmq hmq2
  go_enter Tryd.func80, Tryd.ntmps80
  go_wp2_with (refine wpList_boxBlk rfl 40 (.tmp 0) rfl #[.int .i64 (k : Int), .string ow, .int .i64 nu, .int .i64 ix, .string tx] rfl ?_)
  intro w1 n1
  have F1 := Lib.hid n1.fr
  have NB := Lib.hid n1.blk
  have c0 : w1.cell? ⟨w.heap.size, 0, none⟩ = some (.int .i64 (k : Int)) := n1.blk.cell 0
  have c1 : w1.cell? ⟨w.heap.size, 1, none⟩ = some (.string ow) := n1.blk.cell 1
  have c2 : w1.cell? ⟨w.heap.size, 2, none⟩ = some (.int .i64 nu) := n1.blk.cell 2
  have c3 : w1.cell? ⟨w.heap.size, 3, none⟩ = some (.int .i64 ix) := n1.blk.cell 3
  have c4 : w1.cell? ⟨w.heap.size, 4, none⟩ = some (.string tx) := n1.blk.cell 4
  clear n1
  generalize w.heap.size = gb at *
  go_wp2_with fail
  refine (CO.out _).mono ?_
  rintro e w9 ⟨rfl, rfl⟩
  go_wp2_with fail
  refine (CN.out _).mono ?_
  rintro e w9 ⟨rfl, rfl⟩
  go_wp2_with fail
  refine (CM.out _).mono ?_
  rintro e w9 ⟨rfl, rfl⟩
  by_cases e_ix : ix = 0
  · have He_ix := Lib.hid e_ix
    have t_e_ix := beq0 e_ix
    clear e_ix
    go_wp2_with fail
    refine (CT.out _).mono ?_
    rintro e w9 ⟨rfl, rfl⟩
    go_wp2_with fail
    refine (CO.out _).mono ?_
    rintro e w9 ⟨rfl, rfl⟩
    have K1 := Lib.hid (rValid_any ow w1 HOW.out)
    obtain ⟨v1, hv1⟩ : ∃ v1, validO ow = v1 := ⟨_, rfl⟩
    have Hv1 := Lib.hid hv1
    rw [hv1] at K1
    clear hv1
    go_wp2_with fail
    refine K1.out.mono ?_
    rintro e w4 ⟨rfl, f4⟩
    have F4 := Lib.hid (F1.out.trans f4)
    have n2 := Lib.hid (f4.cellSome c2 (fun x => x))
    have n3 := Lib.hid (f4.cellSome c3 (fun x => x))
    have n4 := Lib.hid (f4.cellSome c4 (fun x => x))
    clear f4 c0 c1 c2 c3 c4
    cases v1
    · go_wp2
      go_ret
      refine ⟨_, rfl, ?_, F4.out⟩
      rw [HOK.out]
      have hh := Hv1.out
      simp [okUs, hh]
    · by_cases hn0 : nu < 0
      · have u0 : decide (nu < 0) = true := decide_eq_true hn0
        have U0 := Lib.hid hn0
        clear hn0
        go_upto_region 8 with fail
        refine wp_region_st 22 Nothing [Is (.pointer (some ⟨gb, 2, none⟩)), Is (.int .i64 nu), Is (.bool true), Is (.bool true), Is (undef), Is (undef), Is (undef), Is (.bool true), Is (.bool true), Is (undef), Is (undef), Is (undef), Is (.bool true), Is (.bool true), Is (undef), Is (undef), Is (undef), Is (undef), Is (undef), Is (undef), Is (.bool true), Is (.bool true)] [] (fun _ => True) (fun _ _ => false) (by kernel_rfl) (by kernel_rfl) (by kernel_rfl) (by kernel_rfl) ⟨Is.stable _, Is.stable _, Is.stable _, Is.stable _, Is.stable _, Is.stable _, Is.stable _, Is.stable _, Is.stable _, Is.stable _, Is.stable _, Is.stable _, Is.stable _, Is.stable _, Is.stable _, Is.stable _, Is.stable _, Is.stable _, Is.stable _, Is.stable _, Is.stable _, Is.stable _, trivial⟩ trivial (fun _ _ _ _ h => h) trivial ?_ ?_
        · refine ⟨?a23_0, ?a23_1, ?a23_2, ?a23_3, ?a23_4, ?a23_5, ?a23_6, ?a23_7, ?a23_8, ?a23_9, ?a23_10, ?a23_11, ?a23_12, ?a23_13, ?a23_14, ?a23_15, ?a23_16, ?a23_17, ?a23_18, ?a23_19, ?a23_20, ?a23_21, trivial⟩
          all_goals intro u w' d hf hR k1 k0 kM
          all_goals simp only [List.take_succ_cons, List.take_zero, List.map_cons, List.map_nil, puts, Act.put, List.setIfInBounds_toArray, List.set_cons_zero, List.set_cons_succ, Nat.reduceAdd, Nat.zero_add]
          case a23_1 =>
            simp only [show u 0 = _ from hR 0 (by kernel_rfl)]
            clear hR k1 k0 kM
            refine .inl ⟨by kernel_rfl, ?_⟩
            have q := hf.cellSome (n2.out) (fun x => x)
            go_simp
            exact ⟨_, rfl, Fr.refl _ _, rfl, trivial⟩
          case' a23_2 => simp only [show u 1 = _ from hR 1 (by kernel_rfl)]
          case' a23_3 => simp only [show u 2 = _ from hR 2 (by kernel_rfl)]
          case a23_4 => simp only [show u 3 = _ from hR 3 (by kernel_rfl)]; exact .inr ⟨by kernel_rfl, _, rfl, Fr.refl _ _, rfl, trivial⟩
          case a23_5 => simp only [show u 3 = _ from hR 3 (by kernel_rfl)]; exact .inr ⟨by kernel_rfl, _, rfl, Fr.refl _ _, rfl, trivial⟩
          case a23_6 => simp only [show u 3 = _ from hR 3 (by kernel_rfl)]; exact .inr ⟨by kernel_rfl, _, rfl, Fr.refl _ _, rfl, trivial⟩
          case' a23_7 => simp only [show u 3 = _ from hR 3 (by kernel_rfl), show u 6 = _ from hR 6 (by kernel_rfl)]
          case' a23_8 => simp only [show u 7 = _ from hR 7 (by kernel_rfl)]
          case a23_9 => simp only [show u 8 = _ from hR 8 (by kernel_rfl)]; exact .inr ⟨by kernel_rfl, _, rfl, Fr.refl _ _, rfl, trivial⟩
          case a23_10 => simp only [show u 8 = _ from hR 8 (by kernel_rfl)]; exact .inr ⟨by kernel_rfl, _, rfl, Fr.refl _ _, rfl, trivial⟩
          case a23_11 => simp only [show u 8 = _ from hR 8 (by kernel_rfl)]; exact .inr ⟨by kernel_rfl, _, rfl, Fr.refl _ _, rfl, trivial⟩
          case' a23_12 => simp only [show u 8 = _ from hR 8 (by kernel_rfl), show u 11 = _ from hR 11 (by kernel_rfl)]
          case' a23_13 => simp only [show u 12 = _ from hR 12 (by kernel_rfl)]
          case a23_14 => simp only [show u 13 = _ from hR 13 (by kernel_rfl)]; exact .inr ⟨by kernel_rfl, _, rfl, Fr.refl _ _, rfl, trivial⟩
          case a23_15 => simp only [show u 13 = _ from hR 13 (by kernel_rfl)]; exact .inr ⟨by kernel_rfl, _, rfl, Fr.refl _ _, rfl, trivial⟩
          case a23_16 => simp only [show u 13 = _ from hR 13 (by kernel_rfl)]; exact .inr ⟨by kernel_rfl, _, rfl, Fr.refl _ _, rfl, trivial⟩
          case a23_17 => simp only [show u 13 = _ from hR 13 (by kernel_rfl)]; exact .inr ⟨by kernel_rfl, _, rfl, Fr.refl _ _, rfl, trivial⟩
          case a23_18 => simp only [show u 13 = _ from hR 13 (by kernel_rfl)]; exact .inr ⟨by kernel_rfl, _, rfl, Fr.refl _ _, rfl, trivial⟩
          case a23_19 => simp only [show u 13 = _ from hR 13 (by kernel_rfl)]; exact .inr ⟨by kernel_rfl, _, rfl, Fr.refl _ _, rfl, trivial⟩
          case' a23_20 => simp only [show u 13 = _ from hR 13 (by kernel_rfl), show u 19 = _ from hR 19 (by kernel_rfl)]
          case' a23_21 => simp only [show u 20 = _ from hR 20 (by kernel_rfl)]
          all_goals
            clear hR k1 k0 kM
            refine .inl ⟨by kernel_rfl, ?_⟩
            go_simp
            exact ⟨_, rfl, Fr.refl _ _, rfl, trivial⟩
        · intro u w' hf hR kM
          have k21 : u 21 = _ := hR 21 (by omega)
          clear hR kM
          simp only [List.take_succ_cons, List.take_zero, List.map_cons, List.map_nil, puts, Act.put, List.setIfInBounds_toArray, List.set_cons_zero, List.set_cons_succ, List.drop_succ_cons, List.drop_zero, Nat.reduceAdd, Nat.zero_add, k21]
          have FA := Lib.hid (F4.out.trans hf)
          have m4 := hf.cellSome n4.out (fun x => x)
          clear hf k21 n2 n3 n4
          go_wp2
          go_ret
          refine ⟨_, rfl, ?_, FA.out⟩
          rw [HOK.out]
          have hh : (decide (0 ≤ nu) && decide (nu ≤ 1073741824)) = false := by rw [decide_eq_false (by have := U0.out; omega)]; rfl
          rw [okUs]
          simp only [hh]
          simp
      have u0 : decide (nu < 0) = false := decide_eq_false hn0
      by_cases hn1 : 1073741824 < nu
      · have u1 : decide (1073741824 < nu) = true := decide_eq_true hn1
        have U1 := Lib.hid hn1
        clear hn0 hn1
        go_upto_region 8 with fail
        refine wp_region_st 22 Nothing [Is (.pointer (some ⟨gb, 2, none⟩)), Is (.int .i64 nu), Is (.bool false), Is (.bool false), Is (.pointer (some ⟨gb, 2, none⟩)), Is (.int .i64 nu), Is (.bool true), Is (.bool true), Is (.bool true), Is (undef), Is (undef), Is (undef), Is (.bool true), Is (.bool true), Is (undef), Is (undef), Is (undef), Is (undef), Is (undef), Is (undef), Is (.bool true), Is (.bool true)] [] (fun _ => True) (fun _ _ => false) (by kernel_rfl) (by kernel_rfl) (by kernel_rfl) (by kernel_rfl) ⟨Is.stable _, Is.stable _, Is.stable _, Is.stable _, Is.stable _, Is.stable _, Is.stable _, Is.stable _, Is.stable _, Is.stable _, Is.stable _, Is.stable _, Is.stable _, Is.stable _, Is.stable _, Is.stable _, Is.stable _, Is.stable _, Is.stable _, Is.stable _, Is.stable _, Is.stable _, trivial⟩ trivial (fun _ _ _ _ h => h) trivial ?_ ?_
        · refine ⟨?a24_0, ?a24_1, ?a24_2, ?a24_3, ?a24_4, ?a24_5, ?a24_6, ?a24_7, ?a24_8, ?a24_9, ?a24_10, ?a24_11, ?a24_12, ?a24_13, ?a24_14, ?a24_15, ?a24_16, ?a24_17, ?a24_18, ?a24_19, ?a24_20, ?a24_21, trivial⟩
          all_goals intro u w' d hf hR k1 k0 kM
          all_goals simp only [List.take_succ_cons, List.take_zero, List.map_cons, List.map_nil, puts, Act.put, List.setIfInBounds_toArray, List.set_cons_zero, List.set_cons_succ, Nat.reduceAdd, Nat.zero_add]
          case a24_1 =>
            simp only [show u 0 = _ from hR 0 (by kernel_rfl)]
            clear hR k1 k0 kM
            refine .inl ⟨by kernel_rfl, ?_⟩
            have q := hf.cellSome (n2.out) (fun x => x)
            go_simp
            exact ⟨_, rfl, Fr.refl _ _, rfl, trivial⟩
          case' a24_2 => simp only [show u 1 = _ from hR 1 (by kernel_rfl)]
          case' a24_3 => simp only [show u 2 = _ from hR 2 (by kernel_rfl)]
          case' a24_4 => simp only [show u 3 = _ from hR 3 (by kernel_rfl)]
          case a24_5 =>
            simp only [show u 4 = _ from hR 4 (by kernel_rfl), show u 3 = _ from hR 3 (by kernel_rfl)]
            clear hR k1 k0 kM
            refine .inl ⟨by kernel_rfl, ?_⟩
            have q := hf.cellSome (n2.out) (fun x => x)
            go_simp
            exact ⟨_, rfl, Fr.refl _ _, rfl, trivial⟩
          case' a24_6 => simp only [show u 5 = _ from hR 5 (by kernel_rfl), show u 3 = _ from hR 3 (by kernel_rfl)]
          case' a24_7 => simp only [show u 3 = _ from hR 3 (by kernel_rfl), show u 6 = _ from hR 6 (by kernel_rfl)]
          case' a24_8 => simp only [show u 7 = _ from hR 7 (by kernel_rfl)]
          case a24_9 => simp only [show u 8 = _ from hR 8 (by kernel_rfl)]; exact .inr ⟨by kernel_rfl, _, rfl, Fr.refl _ _, rfl, trivial⟩
          case a24_10 => simp only [show u 8 = _ from hR 8 (by kernel_rfl)]; exact .inr ⟨by kernel_rfl, _, rfl, Fr.refl _ _, rfl, trivial⟩
          case a24_11 => simp only [show u 8 = _ from hR 8 (by kernel_rfl)]; exact .inr ⟨by kernel_rfl, _, rfl, Fr.refl _ _, rfl, trivial⟩
          case' a24_12 => simp only [show u 8 = _ from hR 8 (by kernel_rfl), show u 11 = _ from hR 11 (by kernel_rfl)]
          case' a24_13 => simp only [show u 12 = _ from hR 12 (by kernel_rfl)]
          case a24_14 => simp only [show u 13 = _ from hR 13 (by kernel_rfl)]; exact .inr ⟨by kernel_rfl, _, rfl, Fr.refl _ _, rfl, trivial⟩
          case a24_15 => simp only [show u 13 = _ from hR 13 (by kernel_rfl)]; exact .inr ⟨by kernel_rfl, _, rfl, Fr.refl _ _, rfl, trivial⟩
          case a24_16 => simp only [show u 13 = _ from hR 13 (by kernel_rfl)]; exact .inr ⟨by kernel_rfl, _, rfl, Fr.refl _ _, rfl, trivial⟩
          case a24_17 => simp only [show u 13 = _ from hR 13 (by kernel_rfl)]; exact .inr ⟨by kernel_rfl, _, rfl, Fr.refl _ _, rfl, trivial⟩
          case a24_18 => simp only [show u 13 = _ from hR 13 (by kernel_rfl)]; exact .inr ⟨by kernel_rfl, _, rfl, Fr.refl _ _, rfl, trivial⟩
          case a24_19 => simp only [show u 13 = _ from hR 13 (by kernel_rfl)]; exact .inr ⟨by kernel_rfl, _, rfl, Fr.refl _ _, rfl, trivial⟩
          case' a24_20 => simp only [show u 13 = _ from hR 13 (by kernel_rfl), show u 19 = _ from hR 19 (by kernel_rfl)]
          case' a24_21 => simp only [show u 20 = _ from hR 20 (by kernel_rfl)]
          all_goals
            clear hR k1 k0 kM
            refine .inl ⟨by kernel_rfl, ?_⟩
            go_simp
            exact ⟨_, rfl, Fr.refl _ _, rfl, trivial⟩
        · intro u w' hf hR kM
          have k21 : u 21 = _ := hR 21 (by omega)
          clear hR kM
          simp only [List.take_succ_cons, List.take_zero, List.map_cons, List.map_nil, puts, Act.put, List.setIfInBounds_toArray, List.set_cons_zero, List.set_cons_succ, List.drop_succ_cons, List.drop_zero, Nat.reduceAdd, Nat.zero_add, k21]
          have FA := Lib.hid (F4.out.trans hf)
          have m4 := hf.cellSome n4.out (fun x => x)
          clear hf k21 n2 n3 n4
          go_wp2
          go_ret
          refine ⟨_, rfl, ?_, FA.out⟩
          rw [HOK.out]
          have hh : (decide (0 ≤ nu) && decide (nu ≤ 1073741824)) = false := by rw [decide_eq_false (show ¬ nu ≤ 1073741824 by have := U1.out; omega)]; simp
          rw [okUs]
          simp only [hh]
          simp
      have u1 : decide (1073741824 < nu) = false := decide_eq_false hn1
      have HNU : Hid ((decide (0 ≤ nu) && decide (nu ≤ 1073741824)) = true) := by simp only [Hid]; rw [decide_eq_true (show 0 ≤ nu by omega), decide_eq_true (show nu ≤ 1073741824 by omega)]; rfl
      clear hn0 hn1
      have v0 : decide (ix < 0) = false := decide_eq_false (by have := He_ix.out; omega)
      have v1 : decide (mo < ix) = false := decide_eq_false (by have := He_ix.out; omega)
      go_upto_region 8 with fail
      refine wp_region_st 22 Nothing [Is (.pointer (some ⟨gb, 2, none⟩)), Is (.int .i64 nu), Is (.bool false), Is (.bool false), Is (.pointer (some ⟨gb, 2, none⟩)), Is (.int .i64 nu), Is (.bool false), Is (.bool false), Is (.bool false), Is (.pointer (some ⟨gb, 3, none⟩)), Is (.int .i64 ix), Is (.bool false), Is (.bool false), Is (.bool false), Is (.pointer (some ⟨gb, 3, none⟩)), Is (.int .i64 ix), Is (.int .i64 (k : Int)), Is (.int .i64 mq), Is (.int .i64 mo), Is (.bool false), Is (.bool false), Is (.bool false)] [] (fun _ => True) (fun _ _ => false) (by kernel_rfl) (by kernel_rfl) (by kernel_rfl) (by kernel_rfl) ⟨Is.stable _, Is.stable _, Is.stable _, Is.stable _, Is.stable _, Is.stable _, Is.stable _, Is.stable _, Is.stable _, Is.stable _, Is.stable _, Is.stable _, Is.stable _, Is.stable _, Is.stable _, Is.stable _, Is.stable _, Is.stable _, Is.stable _, Is.stable _, Is.stable _, Is.stable _, trivial⟩ trivial (fun _ _ _ _ h => h) trivial ?_ ?_
      · refine ⟨?a25_0, ?a25_1, ?a25_2, ?a25_3, ?a25_4, ?a25_5, ?a25_6, ?a25_7, ?a25_8, ?a25_9, ?a25_10, ?a25_11, ?a25_12, ?a25_13, ?a25_14, ?a25_15, ?a25_16, ?a25_17, ?a25_18, ?a25_19, ?a25_20, ?a25_21, trivial⟩
        all_goals intro u w' d hf hR k1 k0 kM
        all_goals simp only [List.take_succ_cons, List.take_zero, List.map_cons, List.map_nil, puts, Act.put, List.setIfInBounds_toArray, List.set_cons_zero, List.set_cons_succ, Nat.reduceAdd, Nat.zero_add]
        case a25_1 =>
          simp only [show u 0 = _ from hR 0 (by kernel_rfl)]
          clear hR k1 k0 kM
          refine .inl ⟨by kernel_rfl, ?_⟩
          have q := hf.cellSome (n2.out) (fun x => x)
          go_simp
          exact ⟨_, rfl, Fr.refl _ _, rfl, trivial⟩
        case' a25_2 => simp only [show u 1 = _ from hR 1 (by kernel_rfl)]
        case' a25_3 => simp only [show u 2 = _ from hR 2 (by kernel_rfl)]
        case' a25_4 => simp only [show u 3 = _ from hR 3 (by kernel_rfl)]
        case a25_5 =>
          simp only [show u 4 = _ from hR 4 (by kernel_rfl), show u 3 = _ from hR 3 (by kernel_rfl)]
          clear hR k1 k0 kM
          refine .inl ⟨by kernel_rfl, ?_⟩
          have q := hf.cellSome (n2.out) (fun x => x)
          go_simp
          exact ⟨_, rfl, Fr.refl _ _, rfl, trivial⟩
        case' a25_6 => simp only [show u 5 = _ from hR 5 (by kernel_rfl), show u 3 = _ from hR 3 (by kernel_rfl)]
        case' a25_7 => simp only [show u 3 = _ from hR 3 (by kernel_rfl), show u 6 = _ from hR 6 (by kernel_rfl)]
        case' a25_8 => simp only [show u 7 = _ from hR 7 (by kernel_rfl)]
        case' a25_9 => simp only [show u 8 = _ from hR 8 (by kernel_rfl)]
        case a25_10 =>
          simp only [show u 9 = _ from hR 9 (by kernel_rfl), show u 8 = _ from hR 8 (by kernel_rfl)]
          clear hR k1 k0 kM
          refine .inl ⟨by kernel_rfl, ?_⟩
          have q := hf.cellSome (n3.out) (fun x => x)
          go_simp
          exact ⟨_, rfl, Fr.refl _ _, rfl, trivial⟩
        case' a25_11 => simp only [show u 10 = _ from hR 10 (by kernel_rfl), show u 8 = _ from hR 8 (by kernel_rfl)]
        case' a25_12 => simp only [show u 8 = _ from hR 8 (by kernel_rfl), show u 11 = _ from hR 11 (by kernel_rfl)]
        case' a25_13 => simp only [show u 12 = _ from hR 12 (by kernel_rfl)]
        case' a25_14 => simp only [show u 13 = _ from hR 13 (by kernel_rfl)]
        case a25_15 =>
          simp only [show u 14 = _ from hR 14 (by kernel_rfl), show u 13 = _ from hR 13 (by kernel_rfl)]
          clear hR k1 k0 kM
          refine .inl ⟨by kernel_rfl, ?_⟩
          have q := hf.cellSome (n3.out) (fun x => x)
          go_simp
          exact ⟨_, rfl, Fr.refl _ _, rfl, trivial⟩
        case' a25_16 => simp only [show u 13 = _ from hR 13 (by kernel_rfl)]
        case a25_17 =>
          simp only [show u 16 = _ from hR 16 (by kernel_rfl), show u 13 = _ from hR 13 (by kernel_rfl)]
          clear hR k1 k0 kM
          refine .inl ⟨by kernel_rfl, ?_⟩
          go_simp
          refine (CM.out _).mono ?_
          rintro e w9 ⟨rfl, rfl⟩
          exact ⟨_, rfl, Fr.refl _ _, rfl, trivial⟩
        case a25_18 =>
          simp only [show u 17 = _ from hR 17 (by kernel_rfl), show u 13 = _ from hR 13 (by kernel_rfl)]
          clear hR k1 k0 kM
          refine .inl ⟨by kernel_rfl, ?_⟩
          have q := HMX.out
          go_simp
          exact ⟨_, rfl, Fr.refl _ _, rfl, trivial⟩
        case' a25_19 => simp only [show u 15 = _ from hR 15 (by kernel_rfl), show u 18 = _ from hR 18 (by kernel_rfl), show u 13 = _ from hR 13 (by kernel_rfl)]
        case' a25_20 => simp only [show u 13 = _ from hR 13 (by kernel_rfl), show u 19 = _ from hR 19 (by kernel_rfl)]
        case' a25_21 => simp only [show u 20 = _ from hR 20 (by kernel_rfl)]
        all_goals
          clear hR k1 k0 kM
          refine .inl ⟨by kernel_rfl, ?_⟩
          go_simp
          exact ⟨_, rfl, Fr.refl _ _, rfl, trivial⟩
      · intro u w' hf hR kM
        have k21 : u 21 = _ := hR 21 (by omega)
        clear hR kM
        simp only [List.take_succ_cons, List.take_zero, List.map_cons, List.map_nil, puts, Act.put, List.setIfInBounds_toArray, List.set_cons_zero, List.set_cons_succ, List.drop_succ_cons, List.drop_zero, Nat.reduceAdd, Nat.zero_add, k21]
        have FA := Lib.hid (F4.out.trans hf)
        have m4 := hf.cellSome n4.out (fun x => x)
        clear hf k21 n2 n3 n4
        go_wp2_with fail
        refine (CT.out _).mono ?_
        rintro e w9 ⟨rfl, rfl⟩
        have K2 := Lib.hid (fun w => rWord_any tx w HTX.out)
        obtain ⟨v2, hv2⟩ : ∃ v2, wordO tx = v2 := ⟨_, rfl⟩
        have Hv2 := Lib.hid hv2
        rw [hv2] at K2
        clear hv2
        go_wp2_with fail
        refine (K2.out _).mono ?_
        rintro e w9 ⟨rfl, rfl⟩
        cases v2
        · go_wp2
          go_ret
          refine ⟨_, rfl, ?_, FA.out⟩
          rw [HOK.out]
          have hh := Hv2.out
          simp [okUs, hh]
        · go_wp2
          go_ret
          refine ⟨_, rfl, ?_, FA.out⟩
          rw [HOK.out]
          rw [okUs]
          simp only [He_ix.out, Hv1.out, HNU.out, Hv2.out]
          simp
  · have He_ix := Lib.hid e_ix
    have t_e_ix := bne0 e_ix
    clear e_ix
    go_wp2
    go_ret
    refine ⟨_, rfl, ?_, F1.out⟩
    rw [HOK.out]
    simp [okUs, He_ix.out]
set_option maxRecDepth 100000 in
set_option maxHeartbeats 8000000 in
theorem rCheck_0100 (k : Nat) (ow : ByteArray) (nu ix : Int) (tx wd : ByteArray) (mo : Int) (w : World) (hk : 1 ≤ k ∧ k ≤ 20) (hu : usaL[k]? = some ⟨wd, false, true, false, false, mo⟩) (ho : ow.size ≤ 1099511627776) (ht : tx.size ≤ 1099511627776) (_hmo : 0 ≤ mo) (hmo0 : mo = 0) :
    Calls Tryd.prog 80 #[.agg #[.int .i64 (k : Int), .string ow, .int .i64 nu, .int .i64 ix, .string tx]] w (Checked w ⟨(k : Int), ow, nu, ix, tx⟩) := by
  have HOK : Hid (okNm ⟨(k : Int), ow, nu, ix, tx⟩ = okUs ⟨wd, false, true, false, false, mo⟩ ⟨(k : Int), ow, nu, ix, tx⟩) := by
    simp only [Hid, okNm, Int.toNat_natCast, hu]
    rw [decide_eq_true (show (1 : Int) ≤ (k : Int) by omega), decide_eq_true (show (k : Int) ≤ 20 by omega)]
    rfl
  have HOW := Lib.hid ho
  have HTX := Lib.hid ht
  have CO : Hid (∀ w, Calls Tryd.prog 97 #[.int .i64 (k : Int)] w (SameW w (.bool false))) := fun w => rOwned_any k _ w hk hu
  have CN : Hid (∀ w, Calls Tryd.prog 99 #[.int .i64 (k : Int)] w (SameW w (.bool true))) := fun w => rNumbered_any k _ w hk hu
  have CT : Hid (∀ w, Calls Tryd.prog 101 #[.int .i64 (k : Int)] w (SameW w (.bool false))) := fun w => rTexted_any k _ w hk hu
  obtain ⟨mq, hmq⟩ : ∃ mq : Int, mq = (if false = true then mo else -1) := ⟨_, rfl⟩
  have CM : Hid (∀ w, Calls Tryd.prog 100 #[.int .i64 (k : Int)] w (SameW w (.int .i64 mq))) := fun w => by rw [hmq]; exact rMost_any k _ w hk hu
  have hmq2 : mq = -1 := by rw [hmq]; simp
  have tq : decide (mq < 0) = true := decide_eq_true (by omega)
  have HMX : Hid (max mq 0 = mo) := by simp only [Hid]; omega
  have k1 : decide ((k : Int) < 1) = false := decide_eq_false (by omega)
  have k1' : ¬ (k : Int) < 1 := by omega
  have k2 : decide ((20 : Int) < (k : Int)) = false := decide_eq_false (by omega)
  have k2' : ¬ (20 : Int) < (k : Int) := by omega
  clear hk hu ho ht hmq hmq2
  go_enter Tryd.func80, Tryd.ntmps80
  go_wp2_with (refine wpList_boxBlk rfl 40 (.tmp 0) rfl #[.int .i64 (k : Int), .string ow, .int .i64 nu, .int .i64 ix, .string tx] rfl ?_)
  intro w1 n1
  have F1 := Lib.hid n1.fr
  have NB := Lib.hid n1.blk
  have c0 : w1.cell? ⟨w.heap.size, 0, none⟩ = some (.int .i64 (k : Int)) := n1.blk.cell 0
  have c1 : w1.cell? ⟨w.heap.size, 1, none⟩ = some (.string ow) := n1.blk.cell 1
  have c2 : w1.cell? ⟨w.heap.size, 2, none⟩ = some (.int .i64 nu) := n1.blk.cell 2
  have c3 : w1.cell? ⟨w.heap.size, 3, none⟩ = some (.int .i64 ix) := n1.blk.cell 3
  have c4 : w1.cell? ⟨w.heap.size, 4, none⟩ = some (.string tx) := n1.blk.cell 4
  clear n1
  generalize w.heap.size = gb at *
  go_wp2_with fail
  refine (CO.out _).mono ?_
  rintro e w9 ⟨rfl, rfl⟩
  cases e_ow : ow.toList.isEmpty
  · have He_ow := Lib.hid e_ow
    go_wp2
    go_ret
    refine ⟨_, rfl, ?_, F1.out⟩
    rw [HOK.out]
    simp [okUs, He_ow.out]
  · have He_ow := Lib.hid e_ow
    go_wp2_with fail
    refine (CN.out _).mono ?_
    rintro e w9 ⟨rfl, rfl⟩
    go_wp2_with fail
    refine (CM.out _).mono ?_
    rintro e w9 ⟨rfl, rfl⟩
    by_cases e_ix : ix = 0
    · have He_ix := Lib.hid e_ix
      have t_e_ix := beq0 e_ix
      clear e_ix
      go_wp2_with fail
      refine (CT.out _).mono ?_
      rintro e w9 ⟨rfl, rfl⟩
      cases e_tx : tx.toList.isEmpty
      · have He_tx := Lib.hid e_tx
        go_wp2
        go_ret
        refine ⟨_, rfl, ?_, F1.out⟩
        rw [HOK.out]
        simp [okUs, He_tx.out]
      · have He_tx := Lib.hid e_tx
        go_wp2_with fail
        refine (CO.out _).mono ?_
        rintro e w9 ⟨rfl, rfl⟩
        have n2 := Lib.hid c2
        have n3 := Lib.hid c3
        have n4 := Lib.hid c4
        clear c0 c1 c2 c3 c4
        by_cases hn0 : nu < 0
        · have u0 : decide (nu < 0) = true := decide_eq_true hn0
          have U0 := Lib.hid hn0
          clear hn0
          go_upto_region 8 with fail
          refine wp_region_st 22 Nothing [Is (.pointer (some ⟨gb, 2, none⟩)), Is (.int .i64 nu), Is (.bool true), Is (.bool true), Is (undef), Is (undef), Is (undef), Is (.bool true), Is (.bool true), Is (undef), Is (undef), Is (undef), Is (.bool true), Is (.bool true), Is (undef), Is (undef), Is (undef), Is (undef), Is (undef), Is (undef), Is (.bool true), Is (.bool true)] [] (fun _ => True) (fun _ _ => false) (by kernel_rfl) (by kernel_rfl) (by kernel_rfl) (by kernel_rfl) ⟨Is.stable _, Is.stable _, Is.stable _, Is.stable _, Is.stable _, Is.stable _, Is.stable _, Is.stable _, Is.stable _, Is.stable _, Is.stable _, Is.stable _, Is.stable _, Is.stable _, Is.stable _, Is.stable _, Is.stable _, Is.stable _, Is.stable _, Is.stable _, Is.stable _, Is.stable _, trivial⟩ trivial (fun _ _ _ _ h => h) trivial ?_ ?_
          · refine ⟨?a26_0, ?a26_1, ?a26_2, ?a26_3, ?a26_4, ?a26_5, ?a26_6, ?a26_7, ?a26_8, ?a26_9, ?a26_10, ?a26_11, ?a26_12, ?a26_13, ?a26_14, ?a26_15, ?a26_16, ?a26_17, ?a26_18, ?a26_19, ?a26_20, ?a26_21, trivial⟩
            all_goals intro u w' d hf hR k1 k0 kM
            all_goals simp only [List.take_succ_cons, List.take_zero, List.map_cons, List.map_nil, puts, Act.put, List.setIfInBounds_toArray, List.set_cons_zero, List.set_cons_succ, Nat.reduceAdd, Nat.zero_add]
            case a26_1 =>
              simp only [show u 0 = _ from hR 0 (by kernel_rfl)]
              clear hR k1 k0 kM
              refine .inl ⟨by kernel_rfl, ?_⟩
              have q := hf.cellSome (n2.out) (fun x => x)
              go_simp
              exact ⟨_, rfl, Fr.refl _ _, rfl, trivial⟩
            case' a26_2 => simp only [show u 1 = _ from hR 1 (by kernel_rfl)]
            case' a26_3 => simp only [show u 2 = _ from hR 2 (by kernel_rfl)]
            case a26_4 => simp only [show u 3 = _ from hR 3 (by kernel_rfl)]; exact .inr ⟨by kernel_rfl, _, rfl, Fr.refl _ _, rfl, trivial⟩
            case a26_5 => simp only [show u 3 = _ from hR 3 (by kernel_rfl)]; exact .inr ⟨by kernel_rfl, _, rfl, Fr.refl _ _, rfl, trivial⟩
            case a26_6 => simp only [show u 3 = _ from hR 3 (by kernel_rfl)]; exact .inr ⟨by kernel_rfl, _, rfl, Fr.refl _ _, rfl, trivial⟩
            case' a26_7 => simp only [show u 3 = _ from hR 3 (by kernel_rfl), show u 6 = _ from hR 6 (by kernel_rfl)]
            case' a26_8 => simp only [show u 7 = _ from hR 7 (by kernel_rfl)]
            case a26_9 => simp only [show u 8 = _ from hR 8 (by kernel_rfl)]; exact .inr ⟨by kernel_rfl, _, rfl, Fr.refl _ _, rfl, trivial⟩
            case a26_10 => simp only [show u 8 = _ from hR 8 (by kernel_rfl)]; exact .inr ⟨by kernel_rfl, _, rfl, Fr.refl _ _, rfl, trivial⟩
            case a26_11 => simp only [show u 8 = _ from hR 8 (by kernel_rfl)]; exact .inr ⟨by kernel_rfl, _, rfl, Fr.refl _ _, rfl, trivial⟩
            case' a26_12 => simp only [show u 8 = _ from hR 8 (by kernel_rfl), show u 11 = _ from hR 11 (by kernel_rfl)]
            case' a26_13 => simp only [show u 12 = _ from hR 12 (by kernel_rfl)]
            case a26_14 => simp only [show u 13 = _ from hR 13 (by kernel_rfl)]; exact .inr ⟨by kernel_rfl, _, rfl, Fr.refl _ _, rfl, trivial⟩
            case a26_15 => simp only [show u 13 = _ from hR 13 (by kernel_rfl)]; exact .inr ⟨by kernel_rfl, _, rfl, Fr.refl _ _, rfl, trivial⟩
            case a26_16 => simp only [show u 13 = _ from hR 13 (by kernel_rfl)]; exact .inr ⟨by kernel_rfl, _, rfl, Fr.refl _ _, rfl, trivial⟩
            case a26_17 => simp only [show u 13 = _ from hR 13 (by kernel_rfl)]; exact .inr ⟨by kernel_rfl, _, rfl, Fr.refl _ _, rfl, trivial⟩
            case a26_18 => simp only [show u 13 = _ from hR 13 (by kernel_rfl)]; exact .inr ⟨by kernel_rfl, _, rfl, Fr.refl _ _, rfl, trivial⟩
            case a26_19 => simp only [show u 13 = _ from hR 13 (by kernel_rfl)]; exact .inr ⟨by kernel_rfl, _, rfl, Fr.refl _ _, rfl, trivial⟩
            case' a26_20 => simp only [show u 13 = _ from hR 13 (by kernel_rfl), show u 19 = _ from hR 19 (by kernel_rfl)]
            case' a26_21 => simp only [show u 20 = _ from hR 20 (by kernel_rfl)]
            all_goals
              clear hR k1 k0 kM
              refine .inl ⟨by kernel_rfl, ?_⟩
              go_simp
              exact ⟨_, rfl, Fr.refl _ _, rfl, trivial⟩
          · intro u w' hf hR kM
            have k21 : u 21 = _ := hR 21 (by omega)
            clear hR kM
            simp only [List.take_succ_cons, List.take_zero, List.map_cons, List.map_nil, puts, Act.put, List.setIfInBounds_toArray, List.set_cons_zero, List.set_cons_succ, List.drop_succ_cons, List.drop_zero, Nat.reduceAdd, Nat.zero_add, k21]
            have FA := Lib.hid (F1.out.trans hf)
            have m4 := hf.cellSome n4.out (fun x => x)
            clear hf k21 n2 n3 n4
            go_wp2
            go_ret
            refine ⟨_, rfl, ?_, FA.out⟩
            rw [HOK.out]
            have hh : (decide (0 ≤ nu) && decide (nu ≤ 1073741824)) = false := by rw [decide_eq_false (by have := U0.out; omega)]; rfl
            rw [okUs]
            simp only [hh]
            simp
        have u0 : decide (nu < 0) = false := decide_eq_false hn0
        by_cases hn1 : 1073741824 < nu
        · have u1 : decide (1073741824 < nu) = true := decide_eq_true hn1
          have U1 := Lib.hid hn1
          clear hn0 hn1
          go_upto_region 8 with fail
          refine wp_region_st 22 Nothing [Is (.pointer (some ⟨gb, 2, none⟩)), Is (.int .i64 nu), Is (.bool false), Is (.bool false), Is (.pointer (some ⟨gb, 2, none⟩)), Is (.int .i64 nu), Is (.bool true), Is (.bool true), Is (.bool true), Is (undef), Is (undef), Is (undef), Is (.bool true), Is (.bool true), Is (undef), Is (undef), Is (undef), Is (undef), Is (undef), Is (undef), Is (.bool true), Is (.bool true)] [] (fun _ => True) (fun _ _ => false) (by kernel_rfl) (by kernel_rfl) (by kernel_rfl) (by kernel_rfl) ⟨Is.stable _, Is.stable _, Is.stable _, Is.stable _, Is.stable _, Is.stable _, Is.stable _, Is.stable _, Is.stable _, Is.stable _, Is.stable _, Is.stable _, Is.stable _, Is.stable _, Is.stable _, Is.stable _, Is.stable _, Is.stable _, Is.stable _, Is.stable _, Is.stable _, Is.stable _, trivial⟩ trivial (fun _ _ _ _ h => h) trivial ?_ ?_
          · refine ⟨?a27_0, ?a27_1, ?a27_2, ?a27_3, ?a27_4, ?a27_5, ?a27_6, ?a27_7, ?a27_8, ?a27_9, ?a27_10, ?a27_11, ?a27_12, ?a27_13, ?a27_14, ?a27_15, ?a27_16, ?a27_17, ?a27_18, ?a27_19, ?a27_20, ?a27_21, trivial⟩
            all_goals intro u w' d hf hR k1 k0 kM
            all_goals simp only [List.take_succ_cons, List.take_zero, List.map_cons, List.map_nil, puts, Act.put, List.setIfInBounds_toArray, List.set_cons_zero, List.set_cons_succ, Nat.reduceAdd, Nat.zero_add]
            case a27_1 =>
              simp only [show u 0 = _ from hR 0 (by kernel_rfl)]
              clear hR k1 k0 kM
              refine .inl ⟨by kernel_rfl, ?_⟩
              have q := hf.cellSome (n2.out) (fun x => x)
              go_simp
              exact ⟨_, rfl, Fr.refl _ _, rfl, trivial⟩
            case' a27_2 => simp only [show u 1 = _ from hR 1 (by kernel_rfl)]
            case' a27_3 => simp only [show u 2 = _ from hR 2 (by kernel_rfl)]
            case' a27_4 => simp only [show u 3 = _ from hR 3 (by kernel_rfl)]
            case a27_5 =>
              simp only [show u 4 = _ from hR 4 (by kernel_rfl), show u 3 = _ from hR 3 (by kernel_rfl)]
              clear hR k1 k0 kM
              refine .inl ⟨by kernel_rfl, ?_⟩
              have q := hf.cellSome (n2.out) (fun x => x)
              go_simp
              exact ⟨_, rfl, Fr.refl _ _, rfl, trivial⟩
            case' a27_6 => simp only [show u 5 = _ from hR 5 (by kernel_rfl), show u 3 = _ from hR 3 (by kernel_rfl)]
            case' a27_7 => simp only [show u 3 = _ from hR 3 (by kernel_rfl), show u 6 = _ from hR 6 (by kernel_rfl)]
            case' a27_8 => simp only [show u 7 = _ from hR 7 (by kernel_rfl)]
            case a27_9 => simp only [show u 8 = _ from hR 8 (by kernel_rfl)]; exact .inr ⟨by kernel_rfl, _, rfl, Fr.refl _ _, rfl, trivial⟩
            case a27_10 => simp only [show u 8 = _ from hR 8 (by kernel_rfl)]; exact .inr ⟨by kernel_rfl, _, rfl, Fr.refl _ _, rfl, trivial⟩
            case a27_11 => simp only [show u 8 = _ from hR 8 (by kernel_rfl)]; exact .inr ⟨by kernel_rfl, _, rfl, Fr.refl _ _, rfl, trivial⟩
            case' a27_12 => simp only [show u 8 = _ from hR 8 (by kernel_rfl), show u 11 = _ from hR 11 (by kernel_rfl)]
            case' a27_13 => simp only [show u 12 = _ from hR 12 (by kernel_rfl)]
            case a27_14 => simp only [show u 13 = _ from hR 13 (by kernel_rfl)]; exact .inr ⟨by kernel_rfl, _, rfl, Fr.refl _ _, rfl, trivial⟩
            case a27_15 => simp only [show u 13 = _ from hR 13 (by kernel_rfl)]; exact .inr ⟨by kernel_rfl, _, rfl, Fr.refl _ _, rfl, trivial⟩
            case a27_16 => simp only [show u 13 = _ from hR 13 (by kernel_rfl)]; exact .inr ⟨by kernel_rfl, _, rfl, Fr.refl _ _, rfl, trivial⟩
            case a27_17 => simp only [show u 13 = _ from hR 13 (by kernel_rfl)]; exact .inr ⟨by kernel_rfl, _, rfl, Fr.refl _ _, rfl, trivial⟩
            case a27_18 => simp only [show u 13 = _ from hR 13 (by kernel_rfl)]; exact .inr ⟨by kernel_rfl, _, rfl, Fr.refl _ _, rfl, trivial⟩
            case a27_19 => simp only [show u 13 = _ from hR 13 (by kernel_rfl)]; exact .inr ⟨by kernel_rfl, _, rfl, Fr.refl _ _, rfl, trivial⟩
            case' a27_20 => simp only [show u 13 = _ from hR 13 (by kernel_rfl), show u 19 = _ from hR 19 (by kernel_rfl)]
            case' a27_21 => simp only [show u 20 = _ from hR 20 (by kernel_rfl)]
            all_goals
              clear hR k1 k0 kM
              refine .inl ⟨by kernel_rfl, ?_⟩
              go_simp
              exact ⟨_, rfl, Fr.refl _ _, rfl, trivial⟩
          · intro u w' hf hR kM
            have k21 : u 21 = _ := hR 21 (by omega)
            clear hR kM
            simp only [List.take_succ_cons, List.take_zero, List.map_cons, List.map_nil, puts, Act.put, List.setIfInBounds_toArray, List.set_cons_zero, List.set_cons_succ, List.drop_succ_cons, List.drop_zero, Nat.reduceAdd, Nat.zero_add, k21]
            have FA := Lib.hid (F1.out.trans hf)
            have m4 := hf.cellSome n4.out (fun x => x)
            clear hf k21 n2 n3 n4
            go_wp2
            go_ret
            refine ⟨_, rfl, ?_, FA.out⟩
            rw [HOK.out]
            have hh : (decide (0 ≤ nu) && decide (nu ≤ 1073741824)) = false := by rw [decide_eq_false (show ¬ nu ≤ 1073741824 by have := U1.out; omega)]; simp
            rw [okUs]
            simp only [hh]
            simp
        have u1 : decide (1073741824 < nu) = false := decide_eq_false hn1
        have HNU : Hid ((decide (0 ≤ nu) && decide (nu ≤ 1073741824)) = true) := by simp only [Hid]; rw [decide_eq_true (show 0 ≤ nu by omega), decide_eq_true (show nu ≤ 1073741824 by omega)]; rfl
        clear hn0 hn1
        have v0 : decide (ix < 0) = false := decide_eq_false (by have := He_ix.out; omega)
        have v1 : decide (mo < ix) = false := decide_eq_false (by have := He_ix.out; omega)
        go_upto_region 8 with fail
        refine wp_region_st 22 Nothing [Is (.pointer (some ⟨gb, 2, none⟩)), Is (.int .i64 nu), Is (.bool false), Is (.bool false), Is (.pointer (some ⟨gb, 2, none⟩)), Is (.int .i64 nu), Is (.bool false), Is (.bool false), Is (.bool false), Is (.pointer (some ⟨gb, 3, none⟩)), Is (.int .i64 ix), Is (.bool false), Is (.bool false), Is (.bool false), Is (.pointer (some ⟨gb, 3, none⟩)), Is (.int .i64 ix), Is (.int .i64 (k : Int)), Is (.int .i64 mq), Is (.int .i64 mo), Is (.bool false), Is (.bool false), Is (.bool false)] [] (fun _ => True) (fun _ _ => false) (by kernel_rfl) (by kernel_rfl) (by kernel_rfl) (by kernel_rfl) ⟨Is.stable _, Is.stable _, Is.stable _, Is.stable _, Is.stable _, Is.stable _, Is.stable _, Is.stable _, Is.stable _, Is.stable _, Is.stable _, Is.stable _, Is.stable _, Is.stable _, Is.stable _, Is.stable _, Is.stable _, Is.stable _, Is.stable _, Is.stable _, Is.stable _, Is.stable _, trivial⟩ trivial (fun _ _ _ _ h => h) trivial ?_ ?_
        · refine ⟨?a28_0, ?a28_1, ?a28_2, ?a28_3, ?a28_4, ?a28_5, ?a28_6, ?a28_7, ?a28_8, ?a28_9, ?a28_10, ?a28_11, ?a28_12, ?a28_13, ?a28_14, ?a28_15, ?a28_16, ?a28_17, ?a28_18, ?a28_19, ?a28_20, ?a28_21, trivial⟩
          all_goals intro u w' d hf hR k1 k0 kM
          all_goals simp only [List.take_succ_cons, List.take_zero, List.map_cons, List.map_nil, puts, Act.put, List.setIfInBounds_toArray, List.set_cons_zero, List.set_cons_succ, Nat.reduceAdd, Nat.zero_add]
          case a28_1 =>
            simp only [show u 0 = _ from hR 0 (by kernel_rfl)]
            clear hR k1 k0 kM
            refine .inl ⟨by kernel_rfl, ?_⟩
            have q := hf.cellSome (n2.out) (fun x => x)
            go_simp
            exact ⟨_, rfl, Fr.refl _ _, rfl, trivial⟩
          case' a28_2 => simp only [show u 1 = _ from hR 1 (by kernel_rfl)]
          case' a28_3 => simp only [show u 2 = _ from hR 2 (by kernel_rfl)]
          case' a28_4 => simp only [show u 3 = _ from hR 3 (by kernel_rfl)]
          case a28_5 =>
            simp only [show u 4 = _ from hR 4 (by kernel_rfl), show u 3 = _ from hR 3 (by kernel_rfl)]
            clear hR k1 k0 kM
            refine .inl ⟨by kernel_rfl, ?_⟩
            have q := hf.cellSome (n2.out) (fun x => x)
            go_simp
            exact ⟨_, rfl, Fr.refl _ _, rfl, trivial⟩
          case' a28_6 => simp only [show u 5 = _ from hR 5 (by kernel_rfl), show u 3 = _ from hR 3 (by kernel_rfl)]
          case' a28_7 => simp only [show u 3 = _ from hR 3 (by kernel_rfl), show u 6 = _ from hR 6 (by kernel_rfl)]
          case' a28_8 => simp only [show u 7 = _ from hR 7 (by kernel_rfl)]
          case' a28_9 => simp only [show u 8 = _ from hR 8 (by kernel_rfl)]
          case a28_10 =>
            simp only [show u 9 = _ from hR 9 (by kernel_rfl), show u 8 = _ from hR 8 (by kernel_rfl)]
            clear hR k1 k0 kM
            refine .inl ⟨by kernel_rfl, ?_⟩
            have q := hf.cellSome (n3.out) (fun x => x)
            go_simp
            exact ⟨_, rfl, Fr.refl _ _, rfl, trivial⟩
          case' a28_11 => simp only [show u 10 = _ from hR 10 (by kernel_rfl), show u 8 = _ from hR 8 (by kernel_rfl)]
          case' a28_12 => simp only [show u 8 = _ from hR 8 (by kernel_rfl), show u 11 = _ from hR 11 (by kernel_rfl)]
          case' a28_13 => simp only [show u 12 = _ from hR 12 (by kernel_rfl)]
          case' a28_14 => simp only [show u 13 = _ from hR 13 (by kernel_rfl)]
          case a28_15 =>
            simp only [show u 14 = _ from hR 14 (by kernel_rfl), show u 13 = _ from hR 13 (by kernel_rfl)]
            clear hR k1 k0 kM
            refine .inl ⟨by kernel_rfl, ?_⟩
            have q := hf.cellSome (n3.out) (fun x => x)
            go_simp
            exact ⟨_, rfl, Fr.refl _ _, rfl, trivial⟩
          case' a28_16 => simp only [show u 13 = _ from hR 13 (by kernel_rfl)]
          case a28_17 =>
            simp only [show u 16 = _ from hR 16 (by kernel_rfl), show u 13 = _ from hR 13 (by kernel_rfl)]
            clear hR k1 k0 kM
            refine .inl ⟨by kernel_rfl, ?_⟩
            go_simp
            refine (CM.out _).mono ?_
            rintro e w9 ⟨rfl, rfl⟩
            exact ⟨_, rfl, Fr.refl _ _, rfl, trivial⟩
          case a28_18 =>
            simp only [show u 17 = _ from hR 17 (by kernel_rfl), show u 13 = _ from hR 13 (by kernel_rfl)]
            clear hR k1 k0 kM
            refine .inl ⟨by kernel_rfl, ?_⟩
            have q := HMX.out
            go_simp
            exact ⟨_, rfl, Fr.refl _ _, rfl, trivial⟩
          case' a28_19 => simp only [show u 15 = _ from hR 15 (by kernel_rfl), show u 18 = _ from hR 18 (by kernel_rfl), show u 13 = _ from hR 13 (by kernel_rfl)]
          case' a28_20 => simp only [show u 13 = _ from hR 13 (by kernel_rfl), show u 19 = _ from hR 19 (by kernel_rfl)]
          case' a28_21 => simp only [show u 20 = _ from hR 20 (by kernel_rfl)]
          all_goals
            clear hR k1 k0 kM
            refine .inl ⟨by kernel_rfl, ?_⟩
            go_simp
            exact ⟨_, rfl, Fr.refl _ _, rfl, trivial⟩
        · intro u w' hf hR kM
          have k21 : u 21 = _ := hR 21 (by omega)
          clear hR kM
          simp only [List.take_succ_cons, List.take_zero, List.map_cons, List.map_nil, puts, Act.put, List.setIfInBounds_toArray, List.set_cons_zero, List.set_cons_succ, List.drop_succ_cons, List.drop_zero, Nat.reduceAdd, Nat.zero_add, k21]
          have FA := Lib.hid (F1.out.trans hf)
          have m4 := hf.cellSome n4.out (fun x => x)
          clear hf k21 n2 n3 n4
          go_wp2_with fail
          refine (CT.out _).mono ?_
          rintro e w9 ⟨rfl, rfl⟩
          go_wp2
          go_ret
          refine ⟨_, rfl, ?_, FA.out⟩
          rw [HOK.out]
          rw [okUs]
          simp only [He_ow.out, He_ix.out, He_tx.out, HNU.out]
          simp
    · have He_ix := Lib.hid e_ix
      have t_e_ix := bne0 e_ix
      clear e_ix
      go_wp2
      go_ret
      refine ⟨_, rfl, ?_, F1.out⟩
      rw [HOK.out]
      simp [okUs, He_ix.out]
set_option maxRecDepth 100000 in
set_option maxHeartbeats 8000000 in
theorem rCheck_0001 (k : Nat) (ow : ByteArray) (nu ix : Int) (tx wd : ByteArray) (mo : Int) (w : World) (hk : 1 ≤ k ∧ k ≤ 20) (hu : usaL[k]? = some ⟨wd, false, false, false, true, mo⟩) (ho : ow.size ≤ 1099511627776) (ht : tx.size ≤ 1099511627776) (_hmo : 0 ≤ mo) (hmo0 : mo = 0) :
    Calls Tryd.prog 80 #[.agg #[.int .i64 (k : Int), .string ow, .int .i64 nu, .int .i64 ix, .string tx]] w (Checked w ⟨(k : Int), ow, nu, ix, tx⟩) := by
  have HOK : Hid (okNm ⟨(k : Int), ow, nu, ix, tx⟩ = okUs ⟨wd, false, false, false, true, mo⟩ ⟨(k : Int), ow, nu, ix, tx⟩) := by
    simp only [Hid, okNm, Int.toNat_natCast, hu]
    rw [decide_eq_true (show (1 : Int) ≤ (k : Int) by omega), decide_eq_true (show (k : Int) ≤ 20 by omega)]
    rfl
  have HOW := Lib.hid ho
  have HTX := Lib.hid ht
  have CO : Hid (∀ w, Calls Tryd.prog 97 #[.int .i64 (k : Int)] w (SameW w (.bool false))) := fun w => rOwned_any k _ w hk hu
  have CN : Hid (∀ w, Calls Tryd.prog 99 #[.int .i64 (k : Int)] w (SameW w (.bool false))) := fun w => rNumbered_any k _ w hk hu
  have CT : Hid (∀ w, Calls Tryd.prog 101 #[.int .i64 (k : Int)] w (SameW w (.bool true))) := fun w => rTexted_any k _ w hk hu
  obtain ⟨mq, hmq⟩ : ∃ mq : Int, mq = (if false = true then mo else -1) := ⟨_, rfl⟩
  have CM : Hid (∀ w, Calls Tryd.prog 100 #[.int .i64 (k : Int)] w (SameW w (.int .i64 mq))) := fun w => by rw [hmq]; exact rMost_any k _ w hk hu
  have hmq2 : mq = -1 := by rw [hmq]; simp
  have tq : decide (mq < 0) = true := decide_eq_true (by omega)
  have HMX : Hid (max mq 0 = mo) := by simp only [Hid]; omega
  have k1 : decide ((k : Int) < 1) = false := decide_eq_false (by omega)
  have k1' : ¬ (k : Int) < 1 := by omega
  have k2 : decide ((20 : Int) < (k : Int)) = false := decide_eq_false (by omega)
  have k2' : ¬ (20 : Int) < (k : Int) := by omega
  clear hk hu ho ht hmq hmq2
  go_enter Tryd.func80, Tryd.ntmps80
  go_wp2_with (refine wpList_boxBlk rfl 40 (.tmp 0) rfl #[.int .i64 (k : Int), .string ow, .int .i64 nu, .int .i64 ix, .string tx] rfl ?_)
  intro w1 n1
  have F1 := Lib.hid n1.fr
  have NB := Lib.hid n1.blk
  have c0 : w1.cell? ⟨w.heap.size, 0, none⟩ = some (.int .i64 (k : Int)) := n1.blk.cell 0
  have c1 : w1.cell? ⟨w.heap.size, 1, none⟩ = some (.string ow) := n1.blk.cell 1
  have c2 : w1.cell? ⟨w.heap.size, 2, none⟩ = some (.int .i64 nu) := n1.blk.cell 2
  have c3 : w1.cell? ⟨w.heap.size, 3, none⟩ = some (.int .i64 ix) := n1.blk.cell 3
  have c4 : w1.cell? ⟨w.heap.size, 4, none⟩ = some (.string tx) := n1.blk.cell 4
  clear n1
  generalize w.heap.size = gb at *
  go_wp2_with fail
  refine (CO.out _).mono ?_
  rintro e w9 ⟨rfl, rfl⟩
  cases e_ow : ow.toList.isEmpty
  · have He_ow := Lib.hid e_ow
    go_wp2
    go_ret
    refine ⟨_, rfl, ?_, F1.out⟩
    rw [HOK.out]
    simp [okUs, He_ow.out]
  · have He_ow := Lib.hid e_ow
    go_wp2_with fail
    refine (CN.out _).mono ?_
    rintro e w9 ⟨rfl, rfl⟩
    by_cases e_nu : nu = 0
    · have He_nu := Lib.hid e_nu
      have t_e_nu := beq0 e_nu
      clear e_nu
      go_wp2_with fail
      refine (CM.out _).mono ?_
      rintro e w9 ⟨rfl, rfl⟩
      by_cases e_ix : ix = 0
      · have He_ix := Lib.hid e_ix
        have t_e_ix := beq0 e_ix
        clear e_ix
        go_wp2_with fail
        refine (CT.out _).mono ?_
        rintro e w9 ⟨rfl, rfl⟩
        go_wp2_with fail
        refine (CO.out _).mono ?_
        rintro e w9 ⟨rfl, rfl⟩
        have n2 := Lib.hid c2
        have n3 := Lib.hid c3
        have n4 := Lib.hid c4
        clear c0 c1 c2 c3 c4
        have u0 : decide (nu < 0) = false := decide_eq_false (by have := He_nu.out; omega)
        have u1 : decide (1073741824 < nu) = false := decide_eq_false (by have := He_nu.out; omega)
        have v0 : decide (ix < 0) = false := decide_eq_false (by have := He_ix.out; omega)
        have v1 : decide (mo < ix) = false := decide_eq_false (by have := He_ix.out; omega)
        go_upto_region 8 with fail
        refine wp_region_st 22 Nothing [Is (.pointer (some ⟨gb, 2, none⟩)), Is (.int .i64 nu), Is (.bool false), Is (.bool false), Is (.pointer (some ⟨gb, 2, none⟩)), Is (.int .i64 nu), Is (.bool false), Is (.bool false), Is (.bool false), Is (.pointer (some ⟨gb, 3, none⟩)), Is (.int .i64 ix), Is (.bool false), Is (.bool false), Is (.bool false), Is (.pointer (some ⟨gb, 3, none⟩)), Is (.int .i64 ix), Is (.int .i64 (k : Int)), Is (.int .i64 mq), Is (.int .i64 mo), Is (.bool false), Is (.bool false), Is (.bool false)] [] (fun _ => True) (fun _ _ => false) (by kernel_rfl) (by kernel_rfl) (by kernel_rfl) (by kernel_rfl) ⟨Is.stable _, Is.stable _, Is.stable _, Is.stable _, Is.stable _, Is.stable _, Is.stable _, Is.stable _, Is.stable _, Is.stable _, Is.stable _, Is.stable _, Is.stable _, Is.stable _, Is.stable _, Is.stable _, Is.stable _, Is.stable _, Is.stable _, Is.stable _, Is.stable _, Is.stable _, trivial⟩ trivial (fun _ _ _ _ h => h) trivial ?_ ?_
        · refine ⟨?a29_0, ?a29_1, ?a29_2, ?a29_3, ?a29_4, ?a29_5, ?a29_6, ?a29_7, ?a29_8, ?a29_9, ?a29_10, ?a29_11, ?a29_12, ?a29_13, ?a29_14, ?a29_15, ?a29_16, ?a29_17, ?a29_18, ?a29_19, ?a29_20, ?a29_21, trivial⟩
          all_goals intro u w' d hf hR k1 k0 kM
          all_goals simp only [List.take_succ_cons, List.take_zero, List.map_cons, List.map_nil, puts, Act.put, List.setIfInBounds_toArray, List.set_cons_zero, List.set_cons_succ, Nat.reduceAdd, Nat.zero_add]
          case a29_1 =>
            simp only [show u 0 = _ from hR 0 (by kernel_rfl)]
            clear hR k1 k0 kM
            refine .inl ⟨by kernel_rfl, ?_⟩
            have q := hf.cellSome (n2.out) (fun x => x)
            go_simp
            exact ⟨_, rfl, Fr.refl _ _, rfl, trivial⟩
          case' a29_2 => simp only [show u 1 = _ from hR 1 (by kernel_rfl)]
          case' a29_3 => simp only [show u 2 = _ from hR 2 (by kernel_rfl)]
          case' a29_4 => simp only [show u 3 = _ from hR 3 (by kernel_rfl)]
          case a29_5 =>
            simp only [show u 4 = _ from hR 4 (by kernel_rfl), show u 3 = _ from hR 3 (by kernel_rfl)]
            clear hR k1 k0 kM
            refine .inl ⟨by kernel_rfl, ?_⟩
            have q := hf.cellSome (n2.out) (fun x => x)
            go_simp
            exact ⟨_, rfl, Fr.refl _ _, rfl, trivial⟩
          case' a29_6 => simp only [show u 5 = _ from hR 5 (by kernel_rfl), show u 3 = _ from hR 3 (by kernel_rfl)]
          case' a29_7 => simp only [show u 3 = _ from hR 3 (by kernel_rfl), show u 6 = _ from hR 6 (by kernel_rfl)]
          case' a29_8 => simp only [show u 7 = _ from hR 7 (by kernel_rfl)]
          case' a29_9 => simp only [show u 8 = _ from hR 8 (by kernel_rfl)]
          case a29_10 =>
            simp only [show u 9 = _ from hR 9 (by kernel_rfl), show u 8 = _ from hR 8 (by kernel_rfl)]
            clear hR k1 k0 kM
            refine .inl ⟨by kernel_rfl, ?_⟩
            have q := hf.cellSome (n3.out) (fun x => x)
            go_simp
            exact ⟨_, rfl, Fr.refl _ _, rfl, trivial⟩
          case' a29_11 => simp only [show u 10 = _ from hR 10 (by kernel_rfl), show u 8 = _ from hR 8 (by kernel_rfl)]
          case' a29_12 => simp only [show u 8 = _ from hR 8 (by kernel_rfl), show u 11 = _ from hR 11 (by kernel_rfl)]
          case' a29_13 => simp only [show u 12 = _ from hR 12 (by kernel_rfl)]
          case' a29_14 => simp only [show u 13 = _ from hR 13 (by kernel_rfl)]
          case a29_15 =>
            simp only [show u 14 = _ from hR 14 (by kernel_rfl), show u 13 = _ from hR 13 (by kernel_rfl)]
            clear hR k1 k0 kM
            refine .inl ⟨by kernel_rfl, ?_⟩
            have q := hf.cellSome (n3.out) (fun x => x)
            go_simp
            exact ⟨_, rfl, Fr.refl _ _, rfl, trivial⟩
          case' a29_16 => simp only [show u 13 = _ from hR 13 (by kernel_rfl)]
          case a29_17 =>
            simp only [show u 16 = _ from hR 16 (by kernel_rfl), show u 13 = _ from hR 13 (by kernel_rfl)]
            clear hR k1 k0 kM
            refine .inl ⟨by kernel_rfl, ?_⟩
            go_simp
            refine (CM.out _).mono ?_
            rintro e w9 ⟨rfl, rfl⟩
            exact ⟨_, rfl, Fr.refl _ _, rfl, trivial⟩
          case a29_18 =>
            simp only [show u 17 = _ from hR 17 (by kernel_rfl), show u 13 = _ from hR 13 (by kernel_rfl)]
            clear hR k1 k0 kM
            refine .inl ⟨by kernel_rfl, ?_⟩
            have q := HMX.out
            go_simp
            exact ⟨_, rfl, Fr.refl _ _, rfl, trivial⟩
          case' a29_19 => simp only [show u 15 = _ from hR 15 (by kernel_rfl), show u 18 = _ from hR 18 (by kernel_rfl), show u 13 = _ from hR 13 (by kernel_rfl)]
          case' a29_20 => simp only [show u 13 = _ from hR 13 (by kernel_rfl), show u 19 = _ from hR 19 (by kernel_rfl)]
          case' a29_21 => simp only [show u 20 = _ from hR 20 (by kernel_rfl)]
          all_goals
            clear hR k1 k0 kM
            refine .inl ⟨by kernel_rfl, ?_⟩
            go_simp
            exact ⟨_, rfl, Fr.refl _ _, rfl, trivial⟩
        · intro u w' hf hR kM
          have k21 : u 21 = _ := hR 21 (by omega)
          clear hR kM
          simp only [List.take_succ_cons, List.take_zero, List.map_cons, List.map_nil, puts, Act.put, List.setIfInBounds_toArray, List.set_cons_zero, List.set_cons_succ, List.drop_succ_cons, List.drop_zero, Nat.reduceAdd, Nat.zero_add, k21]
          have FA := Lib.hid (F1.out.trans hf)
          have m4 := hf.cellSome n4.out (fun x => x)
          clear hf k21 n2 n3 n4
          go_wp2_with fail
          refine (CT.out _).mono ?_
          rintro e w9 ⟨rfl, rfl⟩
          have K2 := Lib.hid (fun w => rWord_any tx w HTX.out)
          obtain ⟨v2, hv2⟩ : ∃ v2, wordO tx = v2 := ⟨_, rfl⟩
          have Hv2 := Lib.hid hv2
          rw [hv2] at K2
          clear hv2
          go_wp2_with fail
          refine (K2.out _).mono ?_
          rintro e w9 ⟨rfl, rfl⟩
          cases v2
          · go_wp2
            go_ret
            refine ⟨_, rfl, ?_, FA.out⟩
            rw [HOK.out]
            have hh := Hv2.out
            simp [okUs, hh]
          · go_wp2
            go_ret
            refine ⟨_, rfl, ?_, FA.out⟩
            rw [HOK.out]
            rw [okUs]
            simp only [He_ow.out, He_nu.out, He_ix.out, Hv2.out]
            simp
      · have He_ix := Lib.hid e_ix
        have t_e_ix := bne0 e_ix
        clear e_ix
        go_wp2
        go_ret
        refine ⟨_, rfl, ?_, F1.out⟩
        rw [HOK.out]
        simp [okUs, He_ix.out]
    · have He_nu := Lib.hid e_nu
      have t_e_nu := bne0 e_nu
      clear e_nu
      go_wp2
      go_ret
      refine ⟨_, rfl, ?_, F1.out⟩
      rw [HOK.out]
      simp [okUs, He_nu.out]
set_option maxRecDepth 100000 in
set_option maxHeartbeats 8000000 in
theorem rCheck_0000 (k : Nat) (ow : ByteArray) (nu ix : Int) (tx wd : ByteArray) (mo : Int) (w : World) (hk : 1 ≤ k ∧ k ≤ 20) (hu : usaL[k]? = some ⟨wd, false, false, false, false, mo⟩) (ho : ow.size ≤ 1099511627776) (ht : tx.size ≤ 1099511627776) (_hmo : 0 ≤ mo) (hmo0 : mo = 0) :
    Calls Tryd.prog 80 #[.agg #[.int .i64 (k : Int), .string ow, .int .i64 nu, .int .i64 ix, .string tx]] w (Checked w ⟨(k : Int), ow, nu, ix, tx⟩) := by
  have HOK : Hid (okNm ⟨(k : Int), ow, nu, ix, tx⟩ = okUs ⟨wd, false, false, false, false, mo⟩ ⟨(k : Int), ow, nu, ix, tx⟩) := by
    simp only [Hid, okNm, Int.toNat_natCast, hu]
    rw [decide_eq_true (show (1 : Int) ≤ (k : Int) by omega), decide_eq_true (show (k : Int) ≤ 20 by omega)]
    rfl
  have HOW := Lib.hid ho
  have HTX := Lib.hid ht
  have CO : Hid (∀ w, Calls Tryd.prog 97 #[.int .i64 (k : Int)] w (SameW w (.bool false))) := fun w => rOwned_any k _ w hk hu
  have CN : Hid (∀ w, Calls Tryd.prog 99 #[.int .i64 (k : Int)] w (SameW w (.bool false))) := fun w => rNumbered_any k _ w hk hu
  have CT : Hid (∀ w, Calls Tryd.prog 101 #[.int .i64 (k : Int)] w (SameW w (.bool false))) := fun w => rTexted_any k _ w hk hu
  obtain ⟨mq, hmq⟩ : ∃ mq : Int, mq = (if false = true then mo else -1) := ⟨_, rfl⟩
  have CM : Hid (∀ w, Calls Tryd.prog 100 #[.int .i64 (k : Int)] w (SameW w (.int .i64 mq))) := fun w => by rw [hmq]; exact rMost_any k _ w hk hu
  have hmq2 : mq = -1 := by rw [hmq]; simp
  have tq : decide (mq < 0) = true := decide_eq_true (by omega)
  have HMX : Hid (max mq 0 = mo) := by simp only [Hid]; omega
  have k1 : decide ((k : Int) < 1) = false := decide_eq_false (by omega)
  have k1' : ¬ (k : Int) < 1 := by omega
  have k2 : decide ((20 : Int) < (k : Int)) = false := decide_eq_false (by omega)
  have k2' : ¬ (20 : Int) < (k : Int) := by omega
  clear hk hu ho ht hmq hmq2
  go_enter Tryd.func80, Tryd.ntmps80
  go_wp2_with (refine wpList_boxBlk rfl 40 (.tmp 0) rfl #[.int .i64 (k : Int), .string ow, .int .i64 nu, .int .i64 ix, .string tx] rfl ?_)
  intro w1 n1
  have F1 := Lib.hid n1.fr
  have NB := Lib.hid n1.blk
  have c0 : w1.cell? ⟨w.heap.size, 0, none⟩ = some (.int .i64 (k : Int)) := n1.blk.cell 0
  have c1 : w1.cell? ⟨w.heap.size, 1, none⟩ = some (.string ow) := n1.blk.cell 1
  have c2 : w1.cell? ⟨w.heap.size, 2, none⟩ = some (.int .i64 nu) := n1.blk.cell 2
  have c3 : w1.cell? ⟨w.heap.size, 3, none⟩ = some (.int .i64 ix) := n1.blk.cell 3
  have c4 : w1.cell? ⟨w.heap.size, 4, none⟩ = some (.string tx) := n1.blk.cell 4
  clear n1
  generalize w.heap.size = gb at *
  go_wp2_with fail
  refine (CO.out _).mono ?_
  rintro e w9 ⟨rfl, rfl⟩
  cases e_ow : ow.toList.isEmpty
  · have He_ow := Lib.hid e_ow
    go_wp2
    go_ret
    refine ⟨_, rfl, ?_, F1.out⟩
    rw [HOK.out]
    simp [okUs, He_ow.out]
  · have He_ow := Lib.hid e_ow
    go_wp2_with fail
    refine (CN.out _).mono ?_
    rintro e w9 ⟨rfl, rfl⟩
    by_cases e_nu : nu = 0
    · have He_nu := Lib.hid e_nu
      have t_e_nu := beq0 e_nu
      clear e_nu
      go_wp2_with fail
      refine (CM.out _).mono ?_
      rintro e w9 ⟨rfl, rfl⟩
      by_cases e_ix : ix = 0
      · have He_ix := Lib.hid e_ix
        have t_e_ix := beq0 e_ix
        clear e_ix
        go_wp2_with fail
        refine (CT.out _).mono ?_
        rintro e w9 ⟨rfl, rfl⟩
        cases e_tx : tx.toList.isEmpty
        · have He_tx := Lib.hid e_tx
          go_wp2
          go_ret
          refine ⟨_, rfl, ?_, F1.out⟩
          rw [HOK.out]
          simp [okUs, He_tx.out]
        · have He_tx := Lib.hid e_tx
          go_wp2_with fail
          refine (CO.out _).mono ?_
          rintro e w9 ⟨rfl, rfl⟩
          have n2 := Lib.hid c2
          have n3 := Lib.hid c3
          have n4 := Lib.hid c4
          clear c0 c1 c2 c3 c4
          have u0 : decide (nu < 0) = false := decide_eq_false (by have := He_nu.out; omega)
          have u1 : decide (1073741824 < nu) = false := decide_eq_false (by have := He_nu.out; omega)
          have v0 : decide (ix < 0) = false := decide_eq_false (by have := He_ix.out; omega)
          have v1 : decide (mo < ix) = false := decide_eq_false (by have := He_ix.out; omega)
          go_upto_region 8 with fail
          refine wp_region_st 22 Nothing [Is (.pointer (some ⟨gb, 2, none⟩)), Is (.int .i64 nu), Is (.bool false), Is (.bool false), Is (.pointer (some ⟨gb, 2, none⟩)), Is (.int .i64 nu), Is (.bool false), Is (.bool false), Is (.bool false), Is (.pointer (some ⟨gb, 3, none⟩)), Is (.int .i64 ix), Is (.bool false), Is (.bool false), Is (.bool false), Is (.pointer (some ⟨gb, 3, none⟩)), Is (.int .i64 ix), Is (.int .i64 (k : Int)), Is (.int .i64 mq), Is (.int .i64 mo), Is (.bool false), Is (.bool false), Is (.bool false)] [] (fun _ => True) (fun _ _ => false) (by kernel_rfl) (by kernel_rfl) (by kernel_rfl) (by kernel_rfl) ⟨Is.stable _, Is.stable _, Is.stable _, Is.stable _, Is.stable _, Is.stable _, Is.stable _, Is.stable _, Is.stable _, Is.stable _, Is.stable _, Is.stable _, Is.stable _, Is.stable _, Is.stable _, Is.stable _, Is.stable _, Is.stable _, Is.stable _, Is.stable _, Is.stable _, Is.stable _, trivial⟩ trivial (fun _ _ _ _ h => h) trivial ?_ ?_
          · refine ⟨?a30_0, ?a30_1, ?a30_2, ?a30_3, ?a30_4, ?a30_5, ?a30_6, ?a30_7, ?a30_8, ?a30_9, ?a30_10, ?a30_11, ?a30_12, ?a30_13, ?a30_14, ?a30_15, ?a30_16, ?a30_17, ?a30_18, ?a30_19, ?a30_20, ?a30_21, trivial⟩
            all_goals intro u w' d hf hR k1 k0 kM
            all_goals simp only [List.take_succ_cons, List.take_zero, List.map_cons, List.map_nil, puts, Act.put, List.setIfInBounds_toArray, List.set_cons_zero, List.set_cons_succ, Nat.reduceAdd, Nat.zero_add]
            case a30_1 =>
              simp only [show u 0 = _ from hR 0 (by kernel_rfl)]
              clear hR k1 k0 kM
              refine .inl ⟨by kernel_rfl, ?_⟩
              have q := hf.cellSome (n2.out) (fun x => x)
              go_simp
              exact ⟨_, rfl, Fr.refl _ _, rfl, trivial⟩
            case' a30_2 => simp only [show u 1 = _ from hR 1 (by kernel_rfl)]
            case' a30_3 => simp only [show u 2 = _ from hR 2 (by kernel_rfl)]
            case' a30_4 => simp only [show u 3 = _ from hR 3 (by kernel_rfl)]
            case a30_5 =>
              simp only [show u 4 = _ from hR 4 (by kernel_rfl), show u 3 = _ from hR 3 (by kernel_rfl)]
              clear hR k1 k0 kM
              refine .inl ⟨by kernel_rfl, ?_⟩
              have q := hf.cellSome (n2.out) (fun x => x)
              go_simp
              exact ⟨_, rfl, Fr.refl _ _, rfl, trivial⟩
            case' a30_6 => simp only [show u 5 = _ from hR 5 (by kernel_rfl), show u 3 = _ from hR 3 (by kernel_rfl)]
            case' a30_7 => simp only [show u 3 = _ from hR 3 (by kernel_rfl), show u 6 = _ from hR 6 (by kernel_rfl)]
            case' a30_8 => simp only [show u 7 = _ from hR 7 (by kernel_rfl)]
            case' a30_9 => simp only [show u 8 = _ from hR 8 (by kernel_rfl)]
            case a30_10 =>
              simp only [show u 9 = _ from hR 9 (by kernel_rfl), show u 8 = _ from hR 8 (by kernel_rfl)]
              clear hR k1 k0 kM
              refine .inl ⟨by kernel_rfl, ?_⟩
              have q := hf.cellSome (n3.out) (fun x => x)
              go_simp
              exact ⟨_, rfl, Fr.refl _ _, rfl, trivial⟩
            case' a30_11 => simp only [show u 10 = _ from hR 10 (by kernel_rfl), show u 8 = _ from hR 8 (by kernel_rfl)]
            case' a30_12 => simp only [show u 8 = _ from hR 8 (by kernel_rfl), show u 11 = _ from hR 11 (by kernel_rfl)]
            case' a30_13 => simp only [show u 12 = _ from hR 12 (by kernel_rfl)]
            case' a30_14 => simp only [show u 13 = _ from hR 13 (by kernel_rfl)]
            case a30_15 =>
              simp only [show u 14 = _ from hR 14 (by kernel_rfl), show u 13 = _ from hR 13 (by kernel_rfl)]
              clear hR k1 k0 kM
              refine .inl ⟨by kernel_rfl, ?_⟩
              have q := hf.cellSome (n3.out) (fun x => x)
              go_simp
              exact ⟨_, rfl, Fr.refl _ _, rfl, trivial⟩
            case' a30_16 => simp only [show u 13 = _ from hR 13 (by kernel_rfl)]
            case a30_17 =>
              simp only [show u 16 = _ from hR 16 (by kernel_rfl), show u 13 = _ from hR 13 (by kernel_rfl)]
              clear hR k1 k0 kM
              refine .inl ⟨by kernel_rfl, ?_⟩
              go_simp
              refine (CM.out _).mono ?_
              rintro e w9 ⟨rfl, rfl⟩
              exact ⟨_, rfl, Fr.refl _ _, rfl, trivial⟩
            case a30_18 =>
              simp only [show u 17 = _ from hR 17 (by kernel_rfl), show u 13 = _ from hR 13 (by kernel_rfl)]
              clear hR k1 k0 kM
              refine .inl ⟨by kernel_rfl, ?_⟩
              have q := HMX.out
              go_simp
              exact ⟨_, rfl, Fr.refl _ _, rfl, trivial⟩
            case' a30_19 => simp only [show u 15 = _ from hR 15 (by kernel_rfl), show u 18 = _ from hR 18 (by kernel_rfl), show u 13 = _ from hR 13 (by kernel_rfl)]
            case' a30_20 => simp only [show u 13 = _ from hR 13 (by kernel_rfl), show u 19 = _ from hR 19 (by kernel_rfl)]
            case' a30_21 => simp only [show u 20 = _ from hR 20 (by kernel_rfl)]
            all_goals
              clear hR k1 k0 kM
              refine .inl ⟨by kernel_rfl, ?_⟩
              go_simp
              exact ⟨_, rfl, Fr.refl _ _, rfl, trivial⟩
          · intro u w' hf hR kM
            have k21 : u 21 = _ := hR 21 (by omega)
            clear hR kM
            simp only [List.take_succ_cons, List.take_zero, List.map_cons, List.map_nil, puts, Act.put, List.setIfInBounds_toArray, List.set_cons_zero, List.set_cons_succ, List.drop_succ_cons, List.drop_zero, Nat.reduceAdd, Nat.zero_add, k21]
            have FA := Lib.hid (F1.out.trans hf)
            have m4 := hf.cellSome n4.out (fun x => x)
            clear hf k21 n2 n3 n4
            go_wp2_with fail
            refine (CT.out _).mono ?_
            rintro e w9 ⟨rfl, rfl⟩
            go_wp2
            go_ret
            refine ⟨_, rfl, ?_, FA.out⟩
            rw [HOK.out]
            rw [okUs]
            simp only [He_ow.out, He_nu.out, He_ix.out, He_tx.out]
            simp
      · have He_ix := Lib.hid e_ix
        have t_e_ix := bne0 e_ix
        clear e_ix
        go_wp2
        go_ret
        refine ⟨_, rfl, ?_, F1.out⟩
        rw [HOK.out]
        simp [okUs, He_ix.out]
    · have He_nu := Lib.hid e_nu
      have t_e_nu := bne0 e_nu
      clear e_nu
      go_wp2
      go_ret
      refine ⟨_, rfl, ?_, F1.out⟩
      rw [HOK.out]
      simp [okUs, He_nu.out]
theorem rCheck_any (n : NameV) (w : World) (ho : n.owner.size ≤ 1099511627776) (ht : n.text.size ≤ 1099511627776) : Calls Tryd.prog 80 #[.agg n.cells.toArray] w (Checked w n) := by
  obtain ⟨kd, ow, nu, ix, tx⟩ := n
  simp only at ho ht
  by_cases hk : 1 ≤ kd ∧ kd ≤ 20
  · obtain ⟨k, rfl⟩ : ∃ k : Nat, kd = (k : Int) := ⟨kd.toNat, by omega⟩
    have hk' : 1 ≤ k ∧ k ≤ 20 := by omega
    match k, hk' with
    | 1, h => exact rCheck_1000 1 ow nu ix tx _ _ w h rfl ho ht (by decide) rfl
    | 2, h => exact rCheck_1000 2 ow nu ix tx _ _ w h rfl ho ht (by decide) rfl
    | 3, h => exact rCheck_1010 3 ow nu ix tx _ _ w h rfl ho ht (by decide)
    | 4, h => exact rCheck_1000 4 ow nu ix tx _ _ w h rfl ho ht (by decide) rfl
    | 5, h => exact rCheck_1000 5 ow nu ix tx _ _ w h rfl ho ht (by decide) rfl
    | 6, h => exact rCheck_1000 6 ow nu ix tx _ _ w h rfl ho ht (by decide) rfl
    | 7, h => exact rCheck_1100 7 ow nu ix tx _ _ w h rfl ho ht (by decide) rfl
    | 8, h => exact rCheck_1110 8 ow nu ix tx _ _ w h rfl ho ht (by decide)
    | 9, h => exact rCheck_1101 9 ow nu ix tx _ _ w h rfl ho ht (by decide) rfl
    | 10, h => exact rCheck_1100 10 ow nu ix tx _ _ w h rfl ho ht (by decide) rfl
    | 11, h => exact rCheck_1100 11 ow nu ix tx _ _ w h rfl ho ht (by decide) rfl
    | 12, h => exact rCheck_1100 12 ow nu ix tx _ _ w h rfl ho ht (by decide) rfl
    | 13, h => exact rCheck_0100 13 ow nu ix tx _ _ w h rfl ho ht (by decide) rfl
    | 14, h => exact rCheck_0001 14 ow nu ix tx _ _ w h rfl ho ht (by decide) rfl
    | 15, h => exact rCheck_0000 15 ow nu ix tx _ _ w h rfl ho ht (by decide) rfl
    | 16, h => exact rCheck_0100 16 ow nu ix tx _ _ w h rfl ho ht (by decide) rfl
    | 17, h => exact rCheck_0001 17 ow nu ix tx _ _ w h rfl ho ht (by decide) rfl
    | 18, h => exact rCheck_1110 18 ow nu ix tx _ _ w h rfl ho ht (by decide)
    | 19, h => exact rCheck_1000 19 ow nu ix tx _ _ w h rfl ho ht (by decide) rfl
    | 20, h => exact rCheck_0000 20 ow nu ix tx _ _ w h rfl ho ht (by decide) rfl
    | k + 21, h => omega
  · have hf : (decide (1 ≤ kd) && decide (kd ≤ 20)) = false := by
      rw [Bool.and_eq_false_iff, decide_eq_false_iff_not, decide_eq_false_iff_not]
      omega
    have HOK : Hid (okNm ⟨kd, ow, nu, ix, tx⟩ = false) := by
      simp only [Hid, okNm]
      rw [hf]
      rfl
    clear ho ht hf
    by_cases h1 : kd < 1
    · have t1 : decide (kd < 1) = true := decide_eq_true h1
      clear hk
      go_enter Tryd.func80, Tryd.ntmps80
      go_wp2_with (refine wpList_boxBlk rfl 40 (.tmp 0) rfl #[.int .i64 kd, .string ow, .int .i64 nu, .int .i64 ix, .string tx] rfl ?_)
      intro w1 n1
      have F1 := Lib.hid n1.fr
      have c0 : w1.cell? ⟨w.heap.size, 0, none⟩ = some (.int .i64 kd) := n1.blk.cell 0
      clear n1
      go_wp2
      go_ret
      exact ⟨11, rfl, by rw [HOK.out]; rfl, F1.out⟩
    · have t1 : decide (kd < 1) = false := decide_eq_false h1
      have h2 : 20 < kd := by omega
      have t2 : decide (20 < kd) = true := decide_eq_true h2
      clear hk
      go_enter Tryd.func80, Tryd.ntmps80
      go_wp2_with (refine wpList_boxBlk rfl 40 (.tmp 0) rfl #[.int .i64 kd, .string ow, .int .i64 nu, .int .i64 ix, .string tx] rfl ?_)
      intro w1 n1
      have F1 := Lib.hid n1.fr
      have c0 : w1.cell? ⟨w.heap.size, 0, none⟩ = some (.int .i64 kd) := n1.blk.cell 0
      clear n1
      go_wp2
      go_ret
      exact ⟨11, rfl, by rw [HOK.out]; rfl, F1.out⟩
end Go.Proofs.YtpnchdgplpdefaaDoor
