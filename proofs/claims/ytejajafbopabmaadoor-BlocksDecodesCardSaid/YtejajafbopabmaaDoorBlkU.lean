/- The reference's Same; what a map's Encode writes. -/
import Derived.Test.YtejajafbopabmaaDoorBlkT
namespace Go.Proofs.YtejajafbopabmaaDoor
open Go.RowKit

theorem Rd.int_at {w : World} {S : Nat → Prop} {A : Option Addr} {n k : Nat} {l : List Int} (h : Rd w S 1 A n (l.map (Value.int .i64))) (hk : k < n) :
    ∃ ad, A = some ad ∧ w.cell? (ad.add k) = some (.int .i64 (l[k]?.getD 0)) := by
  obtain ⟨ad, u, e, _, hx, hc⟩ := h.at_ hk
  refine ⟨ad, e, ?_⟩
  rw [hc]
  rw [List.getElem?_map] at hx
  cases hl : l[k]? with
  | none => simp [hl] at hx
  | some b => rw [hl] at hx; simpa using hx.symm

theorem take_ext {zs ys : List Int} {k : Nat} (h : zs.take k = ys.take k) (h1 : k < zs.length) (h2 : k < ys.length) (e : zs[k]?.getD 0 = ys[k]?.getD 0) : zs.take (k + 1) = ys.take (k + 1) := by
  rw [List.take_succ_eq_append_getElem h1, List.take_succ_eq_append_getElem h2, h]
  simp [h1, h2] at e
  rw [e]

set_option maxHeartbeats 1000000 in
theorem rSame_any (A B : Option Addr) (n c m d : Nat) (zs ys : List Int) (w : World) (S S' : Nat → Prop) (hz : Rd w S 1 A n (zs.map (Value.int .i64))) (hy : Rd w S' 1 B m (ys.map (Value.int .i64))) (hn : n ≤ 1099511627776) (hm : m ≤ 1099511627776) :
    Calls Tryd.prog 19 #[.slice A n c, .slice B m d] w (Gives w (.bool (decide (zs = ys)))) := by
  have l1 : zs.length = n := by simpa using hz.1
  have l2 : ys.length = m := by simpa using hy.1
  have HZ := Lib.hid hz
  have HY := Lib.hid hy
  have L1 := Lib.hid l1
  have L2 := Lib.hid l2
  clear hz hy
  by_cases hnm : n = m
  · subst hnm
    clear l1 l2
    have HW : Hid (Fr Nothing w w) := Fr.refl _ _
    go_enter Tryd.func19, Tryd.ntmps19
    go_wp2
    go_loopw [5] (fun i wr => ∃ k : Nat, k ≤ n ∧ i = .int .i64 k ∧ Fr Nothing w wr ∧ Hid (zs.take k = ys.take k)) (fun i _ => n - (intOf i).toNat)
    case atStart => exact ⟨0, Nat.zero_le _, rfl, Fr.refl _ _, rfl⟩
    case round =>
      obtain ⟨k, hk, rfl, hf, HE⟩ := hrel
      have HF := Lib.hid hf
      clear hf
      by_cases hlt : k < n
      · obtain ⟨a1, rfl, c1⟩ := (HZ.out.fr0 HF.out).int_at hlt
        obtain ⟨a2, rfl, c2⟩ := (HY.out.fr0 HF.out).int_at hlt
        have q1 : (k : Int) < (n : Int) := by omega
        by_cases he : zs[k]?.getD 0 = ys[k]?.getD 0
        · have HE2 := Lib.hid (take_ext HE.out (by rw [L1.out]; exact hlt) (by rw [L2.out]; exact hlt) he)
          have t1 : (zs[k]?.getD 0 != ys[k]?.getD 0) = false := by rw [he]; simp
          clear he
          generalize zs[k]?.getD 0 = x at *
          generalize ys[k]?.getD 0 = y at *
          go_wp2
          go_quiet (fail)
          go_wp2
          go_roundw
          case rel => exact ⟨k + 1, by omega, by go_num, HF.out.drewN _, HE2⟩
          case measure => simp [intOf]; omega
        · have t1 : (zs[k]?.getD 0 != ys[k]?.getD 0) = true := by simpa using he
          have HN : Hid (decide (zs = ys) = false) := by
            simp only [Hid, decide_eq_false_iff_not]
            intro e
            exact he (by rw [e])
          clear he
          generalize zs[k]?.getD 0 = x at *
          generalize ys[k]?.getD 0 = y at *
          go_wp2
          go_quiet (fail)
          go_wp2
          go_ret
          exact ⟨by rw [HN.out]; rfl, HF.out.drewN _⟩
      · obtain rfl : k = n := by omega
        have HN : Hid (decide (zs = ys) = true) := by
          have e := HE.out
          rw [List.take_of_length_le (by rw [L1.out]; omega), List.take_of_length_le (by rw [L2.out]; omega)] at e
          simp [Hid, e]
        go_wp2
        go_ret
        exact ⟨by rw [HN.out]; rfl, HF.out⟩
  · have HN : Hid (decide (zs = ys) = false) := by
      simp only [Hid, decide_eq_false_iff_not]
      intro e
      rw [e] at l1
      omega
    have t1 : ((n : Int) != (m : Int)) = true := by simp; omega
    clear hnm
    go_enter Tryd.func19, Tryd.ntmps19
    go_wp2
    go_ret
    exact ⟨by rw [HN.out]; rfl, Fr.refl _ _⟩
end Go.Proofs.YtejajafbopabmaaDoor
