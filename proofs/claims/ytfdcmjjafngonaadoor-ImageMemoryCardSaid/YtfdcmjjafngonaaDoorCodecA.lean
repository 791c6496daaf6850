/- Contracts of codec.parseNatural, codec.Parse and of the reference's groups, Parse: each returns what 'pn' says and leaves the world alone. -/
import Derived.Test.YtfdcmjjafngonaaDoorProg
import Derived.Test.YtfdcmjjafngonaaDoorCodecP
namespace Go.Proofs.YtfdcmjjafngonaaDoor
open Go.RowKit

theorem Rd.byte {w : World} {S : Nat → Prop} {A : Option Addr} {n k : Nat} {l : List UInt8} (h : Rd w S 1 A n (l.map bv)) (hk : k < n) :
    ∃ ad, A = some ad ∧ w.cell? (ad.add k) = some (.int .u8 ((l[k]?.getD 0).toNat : Int)) := by
  obtain ⟨ad, u, e, _, hx, hc⟩ := h.at_ hk
  refine ⟨ad, e, ?_⟩
  rw [hc]
  rw [List.getElem?_map] at hx
  cases hl : l[k]? with
  | none => simp [hl] at hx
  | some b => rw [hl] at hx; simp [bv] at hx; simp [hx]

set_option maxRecDepth 100000 in
set_option maxHeartbeats 1000000 in
theorem parseNatural_any (A : Option Addr) (n c : Nat) (l : List UInt8) (most : Nat) (w : World) (S : Nat → Prop) (hr : Rd w S 1 A n (l.map bv)) (hn : n ≤ 1099511627776) (hm1 : 1 ≤ most) (hm : most ≤ 10) :
    Calls Tryd.prog 73 #[.slice A n c, .int .i64 most] w fun e w' => e = .returned (.tuple #[.int .u64 ((pn l most).1 : Nat), .int .i64 ((pn l most).2.1 : Nat), .int .i64 ((pn l most).2.2 : Nat)]) ∧ w = w' := by
  have hlen : l.length = n := by have := hr.1; simpa using this
  have HL := Lib.hid hlen
  clear hlen
  have HR := Lib.hid hr
  clear hr
  go_enter Tryd.func73, Tryd.ntmps73
  go_wp2
  go_loop [7] (fun i => ∃ k : Nat, k ≤ n ∧ k ≤ most ∧ i = .int .i64 k ∧ Hid (lead l most = k + lead (l.drop k) (most - k))) (fun i => n - (intOf i).toNat)
  case atStart => exact ⟨0, Nat.zero_le _, Nat.zero_le _, rfl, by simp [Hid]⟩
  case round =>
    obtain ⟨k, hk1, hk2, rfl, H⟩ := hrel
    by_cases hcont : k < n ∧ k < most ∧ 128 ≤ (l[k]?.getD 0).toNat
    · obtain ⟨hc1, hc2, hb⟩ := hcont
      obtain ⟨ad, rfl, hc⟩ := HR.out.byte hc1
      have H2 := Lib.hid (lead_step l most k (by rw [HL.out]; exact hc1) hc2 hb)
      have hb2 : (128 : Int) ≤ ((l[k]?.getD 0).toNat : Int) := by omega
      clear hb
      generalize ((l[k]?.getD 0).toNat) = b at hc hb2
      go_wp2
      go_round
      case rel => exact ⟨k + 1, by omega, by omega, by go_num, by have := H.out; have := H2.out; simp only [Hid]; omega⟩
      case measure => simp [intOf]; omega
    · have H2 := Lib.hid (lead_stop l most k (by rw [HL.out]; omega))
      have HK : Hid (lead l most = k) := by have := H.out; have := H2.out; simp only [Hid]; omega
      clear H H2
      by_cases hk9 : k = most
      · clear hcont
        have HP := Lib.hid (pn_most l most (HK.out.trans hk9))
        obtain rfl := hk9
        go_wp2
        all_goals
          go_ret3
          exact ⟨by rw [HP.out]; rfl, rfl⟩
      · have hk2' : k < most := by omega
        have hkm : ((k : Int) == (most : Int)) = false := beq_eq_false_iff_ne.2 (by omega)
        by_cases hkn : k = n
        · clear hcont
          have HP := Lib.hid (pn_trunc l most k HK.out hk2' (by rw [HL.out]; exact hkn))
          clear hk9
          obtain rfl := hkn
          go_wp2
          go_ret3
          exact ⟨by rw [HP.out]; rfl, rfl⟩
        · have hkn2 : k < n := by omega
          have hkn' : ((k : Int) == (n : Int)) = false := beq_eq_false_iff_ne.2 (by omega)
          have hb : (l[k]?.getD 0).toNat < 128 := by omega
          clear hcont hk9 hkn
          obtain ⟨ad, rfl, hc⟩ := HR.out.byte hkn2
          have HQ := Lib.hid (pn_end l most k HK.out hk2' (by rw [HL.out]; omega))
          have hb' : ((l[k]?.getD 0).toNat : Int) < 128 := by omega
          have hbd : decide ((128 : Int) ≤ ((l[k]?.getD 0).toNat : Int)) = false := by simp; omega
          clear hb
          by_cases hz : 0 < k ∧ (l[k]?.getD 0).toNat = 0
          · have HP := Lib.hid (HQ.out.trans (if_pos hz))
            clear HQ
            have hz1 : 0 < k := hz.1
            have hz2 : (((l[k]?.getD 0).toNat : Int) == 0) = true := beq_iff_eq.2 (by omega)
            clear hz
            generalize ((l[k]?.getD 0).toNat) = b at hc hb' hbd hz2
            go_wp2
            go_ret3
            exact ⟨by rw [HP.out]; rfl, rfl⟩
          · have HQ2 := Lib.hid (HQ.out.trans (if_neg hz))
            clear HQ
            by_cases hy : k = 9 ∧ 1 < (l[k]?.getD 0).toNat
            · have HP := Lib.hid (HQ2.out.trans (if_pos hy))
              clear HQ2
              have hz1 : 0 < k := by omega
              have hz2 : (((l[k]?.getD 0).toNat : Int) == 0) = false := beq_eq_false_iff_ne.2 (by omega)
              have hz3 : ((k : Int) == 9) = true := beq_iff_eq.2 (by omega)
              have hz4 : (1 : Int) < ((l[k]?.getD 0).toNat : Int) := by omega
              clear hz hy
              generalize ((l[k]?.getD 0).toNat) = b at hc hb' hbd hz2 hz4
              go_wp2
              go_ret3
              exact ⟨by rw [HP.out]; rfl, rfl⟩
            · have HP := Lib.hid (HQ2.out.trans (if_neg hy))
              clear HQ2
              have HV : Hid (k = 9 → (l[k]?.getD 0).toNat ≤ 1) := by simp only [Hid]; omega
              have HZ : Hid (0 < k → (l[k]?.getD 0).toNat ≠ 0) := by simp only [Hid]; omega
              have hgo : (((k : Int) == 9) = true ∧ 0 < k ∧ (((l[k]?.getD 0).toNat : Int) == 0) = false ∧ decide ((1 : Int) < ((l[k]?.getD 0).toNat : Int)) = false) ∨ (((k : Int) == 9) = false ∧ 0 < k ∧ (((l[k]?.getD 0).toNat : Int) == 0) = false) ∨ (((k : Int) == 9) = false ∧ decide (0 < k) = false) := by
                by_cases h9 : k = 9
                · exact .inl ⟨beq_iff_eq.2 (by omega), by omega, beq_eq_false_iff_ne.2 (by omega), by simp; omega⟩
                · by_cases h0 : 0 < k
                  · exact .inr (.inl ⟨beq_eq_false_iff_ne.2 (by omega), h0, beq_eq_false_iff_ne.2 (by omega)⟩)
                  · exact .inr (.inr ⟨beq_eq_false_iff_ne.2 (by omega), by simpa using h0⟩)
              clear hz hy
              rcases hgo with ⟨h9, h0, hb0, hb1⟩ | ⟨h9, h0, hb0⟩ | ⟨h9, h0⟩
              all_goals
                go_wp2
                clear hb' hbd hkm hkn' hc
                go_loop [8, 9] (fun u i => (∃ j : Nat, j ≤ k ∧ i = .int .i64 j ∧ ∃ x : Nat, x < 144115188075855872 ∧ Hid (x = val ((l.take (k + 1)).drop (j + 1))) ∧ u = .int .u64 x) ∨ (i = .int .i64 (-1) ∧ u = .int .u64 (val (l.take (k + 1))))) (fun _ i => (intOf i + 1).toNat)
                case atStart => exact .inl ⟨k, Nat.le_refl _, rfl, 0, by omega, by simp only [Hid]; rw [List.drop_of_length_le (by simp; omega)]; rfl, rfl⟩
                case round =>
                  rcases hrel with ⟨j, hj, rfl, x, hx, HX, rfl⟩ | ⟨rfl, rfl⟩
                  · obtain ⟨ad', e, hc⟩ := HR.out.byte (k := j) (by omega)
                    obtain rfl : ad = ad' := by injection e
                    clear e
                    have hb := (l[j]?.getD 0).toNat_lt
                    generalize HBB : (l[j]?.getD 0).toNat = b at hc hb
                    have HB := Lib.hid HBB
                    clear HBB
                    go_wp2
                    have hv := val_drop l k j (by rw [HL.out]; omega) hj
                    rw [← HX.out, HB.out] at hv
                    rw [group_or x b hx hb, ← hv]
                    rcases j with _ | j
                    · refine ⟨.inr ⟨rfl, by rw [List.drop_zero]⟩, by simp [intOf]⟩
                    · refine ⟨.inl ⟨j, by omega, by go_num, _, val_small l k j (by rw [HL.out]; omega) (by omega) HV.out, rfl, rfl⟩, by simp [intOf]; omega⟩
                  · go_wp2
                    go_ret3
                    exact ⟨by rw [HP.out]; rfl, rfl⟩

set_option maxRecDepth 100000 in
set_option maxHeartbeats 1000000 in
theorem groups_any (A : Option Addr) (n c : Nat) (l : List UInt8) (most : Nat) (w : World) (S : Nat → Prop) (hr : Rd w S 1 A n (l.map bv)) (hn : n ≤ 1099511627776) (hm1 : 1 ≤ most) (hm : most ≤ 10) :
    Calls Tryd.prog 74 #[.slice A n c, .int .i64 most] w fun e w' => e = .returned (.tuple #[.int .u64 ((pn l most).1 : Nat), .int .i64 ((pn l most).2.1 : Nat), .int .i64 ((pn l most).2.2 : Nat)]) ∧ w = w' := by
  have hlen : l.length = n := by have := hr.1; simpa using this
  have HL := Lib.hid hlen
  clear hlen
  have HR := Lib.hid hr
  clear hr
  go_enter Tryd.func74, Tryd.ntmps74
  go_wp2
  go_loop [7] (fun i => ∃ k : Nat, k ≤ n ∧ k ≤ most ∧ i = .int .i64 k ∧ Hid (lead l most = k + lead (l.drop k) (most - k))) (fun i => n - (intOf i).toNat)
  case atStart => exact ⟨0, Nat.zero_le _, Nat.zero_le _, rfl, by simp [Hid]⟩
  case round =>
    obtain ⟨k, hk1, hk2, rfl, H⟩ := hrel
    by_cases hcont : k < n ∧ k < most ∧ 128 ≤ (l[k]?.getD 0).toNat
    · obtain ⟨hc1, hc2, hb⟩ := hcont
      obtain ⟨ad, rfl, hc⟩ := HR.out.byte hc1
      have H2 := Lib.hid (lead_step l most k (by rw [HL.out]; exact hc1) hc2 hb)
      have hb2 : (128 : Int) ≤ ((l[k]?.getD 0).toNat : Int) := by omega
      clear hb
      generalize ((l[k]?.getD 0).toNat) = b at hc hb2
      go_wp2
      go_round
      case rel => exact ⟨k + 1, by omega, by omega, by go_num, by have := H.out; have := H2.out; simp only [Hid]; omega⟩
      case measure => simp [intOf]; omega
    · have H2 := Lib.hid (lead_stop l most k (by rw [HL.out]; omega))
      have HK : Hid (lead l most = k) := by have := H.out; have := H2.out; simp only [Hid]; omega
      clear H H2
      by_cases hk9 : k = most
      · clear hcont
        have HP := Lib.hid (pn_most l most (HK.out.trans hk9))
        obtain rfl := hk9
        go_wp2
        all_goals
          go_ret3
          exact ⟨by rw [HP.out]; rfl, rfl⟩
      · have hk2' : k < most := by omega
        have hkm : ((k : Int) == (most : Int)) = false := beq_eq_false_iff_ne.2 (by omega)
        by_cases hkn : k = n
        · clear hcont
          have HP := Lib.hid (pn_trunc l most k HK.out hk2' (by rw [HL.out]; exact hkn))
          clear hk9
          obtain rfl := hkn
          go_wp2
          go_ret3
          exact ⟨by rw [HP.out]; rfl, rfl⟩
        · have hkn2 : k < n := by omega
          have hkn' : ((k : Int) == (n : Int)) = false := beq_eq_false_iff_ne.2 (by omega)
          have hb : (l[k]?.getD 0).toNat < 128 := by omega
          clear hcont hk9 hkn
          obtain ⟨ad, rfl, hc⟩ := HR.out.byte hkn2
          have HQ := Lib.hid (pn_end l most k HK.out hk2' (by rw [HL.out]; omega))
          have hb' : ((l[k]?.getD 0).toNat : Int) < 128 := by omega
          have hbd : decide ((128 : Int) ≤ ((l[k]?.getD 0).toNat : Int)) = false := by simp; omega
          clear hb
          by_cases hz : 0 < k ∧ (l[k]?.getD 0).toNat = 0
          · have HP := Lib.hid (HQ.out.trans (if_pos hz))
            clear HQ
            have hz1 : 0 < k := hz.1
            have hz2 : (((l[k]?.getD 0).toNat : Int) == 0) = true := beq_iff_eq.2 (by omega)
            clear hz
            generalize ((l[k]?.getD 0).toNat) = b at hc hb' hbd hz2
            go_wp2
            go_ret3
            exact ⟨by rw [HP.out]; rfl, rfl⟩
          · have HQ2 := Lib.hid (HQ.out.trans (if_neg hz))
            clear HQ
            by_cases hy : k = 9 ∧ 1 < (l[k]?.getD 0).toNat
            · have HP := Lib.hid (HQ2.out.trans (if_pos hy))
              clear HQ2
              have hz1 : 0 < k := by omega
              have hz2 : (((l[k]?.getD 0).toNat : Int) == 0) = false := beq_eq_false_iff_ne.2 (by omega)
              have hz3 : ((k : Int) == 9) = true := beq_iff_eq.2 (by omega)
              have hz4 : (1 : Int) < ((l[k]?.getD 0).toNat : Int) := by omega
              clear hz hy
              generalize ((l[k]?.getD 0).toNat) = b at hc hb' hbd hz2 hz4
              go_wp2
              go_ret3
              exact ⟨by rw [HP.out]; rfl, rfl⟩
            · have HP := Lib.hid (HQ2.out.trans (if_neg hy))
              clear HQ2
              have HV : Hid (k = 9 → (l[k]?.getD 0).toNat ≤ 1) := by simp only [Hid]; omega
              have HZ : Hid (0 < k → (l[k]?.getD 0).toNat ≠ 0) := by simp only [Hid]; omega
              have hgo : (((k : Int) == 9) = true ∧ 0 < k ∧ (((l[k]?.getD 0).toNat : Int) == 0) = false ∧ decide ((1 : Int) < ((l[k]?.getD 0).toNat : Int)) = false) ∨ (((k : Int) == 9) = false ∧ 0 < k ∧ (((l[k]?.getD 0).toNat : Int) == 0) = false) ∨ (((k : Int) == 9) = false ∧ decide (0 < k) = false) := by
                by_cases h9 : k = 9
                · exact .inl ⟨beq_iff_eq.2 (by omega), by omega, beq_eq_false_iff_ne.2 (by omega), by simp; omega⟩
                · by_cases h0 : 0 < k
                  · exact .inr (.inl ⟨beq_eq_false_iff_ne.2 (by omega), h0, beq_eq_false_iff_ne.2 (by omega)⟩)
                  · exact .inr (.inr ⟨beq_eq_false_iff_ne.2 (by omega), by simpa using h0⟩)
              clear hz hy
              rcases hgo with ⟨h9, h0, hb0, hb1⟩ | ⟨h9, h0, hb0⟩ | ⟨h9, h0⟩
              all_goals
                go_wp2
                clear hb' hbd hkm hkn' hc
                go_loop [8, 9] (fun u i => (∃ j : Nat, j ≤ k ∧ i = .int .i64 j ∧ ∃ x : Nat, x < 144115188075855872 ∧ Hid (x = val ((l.take (k + 1)).drop (j + 1))) ∧ u = .int .u64 x) ∨ (i = .int .i64 (-1) ∧ u = .int .u64 (val (l.take (k + 1))))) (fun _ i => (intOf i + 1).toNat)
                case atStart => exact .inl ⟨k, Nat.le_refl _, rfl, 0, by omega, by simp only [Hid]; rw [List.drop_of_length_le (by simp; omega)]; rfl, rfl⟩
                case round =>
                  rcases hrel with ⟨j, hj, rfl, x, hx, HX, rfl⟩ | ⟨rfl, rfl⟩
                  · obtain ⟨ad', e, hc⟩ := HR.out.byte (k := j) (by omega)
                    obtain rfl : ad = ad' := by injection e
                    clear e
                    have hb := (l[j]?.getD 0).toNat_lt
                    generalize HBB : (l[j]?.getD 0).toNat = b at hc hb
                    have HB := Lib.hid HBB
                    clear HBB
                    go_wp2
                    have hv := val_drop l k j (by rw [HL.out]; omega) hj
                    rw [← HX.out, HB.out] at hv
                    rw [group_add x b hx hb, ← hv]
                    rcases j with _ | j
                    · refine ⟨.inr ⟨rfl, by rw [List.drop_zero]⟩, by simp [intOf]⟩
                    · refine ⟨.inl ⟨j, by omega, by go_num, _, val_small l k j (by rw [HL.out]; omega) (by omega) HV.out, rfl, rfl⟩, by simp [intOf]; omega⟩
                  · go_wp2
                    go_ret3
                    exact ⟨by rw [HP.out]; rfl, rfl⟩

set_option maxHeartbeats 1000000 in
theorem Parse_any (A : Option Addr) (n c : Nat) (l : List UInt8) (w : World) (S : Nat → Prop) (hr : Rd w S 1 A n (l.map bv)) (hn : n ≤ 1099511627776) :
    Calls Tryd.prog 59 #[.slice A n c] w fun e w' => e = .returned (.tuple #[.int .i64 ((pn l 9).1 : Nat), .int .i64 ((pn l 9).2.1 : Nat), .int .i64 ((pn l 9).2.2 : Nat)]) ∧ w = w' := by
  have hp := parseNatural_any A n c l 9 w S hr hn (by omega) (by omega)
  have hb := pn_lt9 l
  generalize (pn l 9).1 = a1 at hp hb ⊢
  generalize (pn l 9).2.1 = a2 at hp ⊢
  generalize (pn l 9).2.2 = a3 at hp ⊢
  have HP := Lib.hid hp
  clear hp hr
  go_enter Tryd.func59, Tryd.ntmps59
  go_wp2_with fail
  refine HP.out.mono ?_
  rintro e w1 ⟨rfl, rfl⟩
  go_wp2
  go_ret3
  exact ⟨rfl, rfl⟩

set_option maxHeartbeats 1000000 in
theorem refParse_any (A : Option Addr) (n c : Nat) (l : List UInt8) (w : World) (S : Nat → Prop) (hr : Rd w S 1 A n (l.map bv)) (hn : n ≤ 1099511627776) :
    Calls Tryd.prog 63 #[.slice A n c] w fun e w' => e = .returned (.tuple #[.int .i64 ((pn l 9).1 : Nat), .int .i64 ((pn l 9).2.1 : Nat), .int .i64 ((pn l 9).2.2 : Nat)]) ∧ w = w' := by
  have hp := groups_any A n c l 9 w S hr hn (by omega) (by omega)
  have hb := pn_lt9 l
  generalize (pn l 9).1 = a1 at hp hb ⊢
  generalize (pn l 9).2.1 = a2 at hp ⊢
  generalize (pn l 9).2.2 = a3 at hp ⊢
  have HP := Lib.hid hp
  clear hp hr
  go_enter Tryd.func63, Tryd.ntmps63
  go_wp2_with fail
  refine HP.out.mono ?_
  rintro e w1 ⟨rfl, rfl⟩
  go_wp2
  go_ret3
  exact ⟨rfl, rfl⟩
end Go.Proofs.YtfdcmjjafngonaaDoor
