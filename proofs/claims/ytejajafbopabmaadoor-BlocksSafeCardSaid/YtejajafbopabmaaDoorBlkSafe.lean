/- The walk of BlocksSafe. -/
import Derived.Test.YtejajafbopabmaaDoorBlkRet
namespace Go.Proofs.YtejajafbopabmaaDoor
open Go.RowKit

theorem pickF_not {l : List UInt8} {x y : UInt8} {n i : Nat} (h : hit l x y i = false) : ∀ m, ∀ j ∈ pickF l x y n m, j.1 ≠ i
  | 0, j, hj => by simp [pickF] at hj
  | m + 1, j, hj => by
    cases hh : hit l x y m with
    | false => rw [pickF_miss hh] at hj; exact pickF_not h m j hj
    | true =>
      by_cases hm : m < n
      · rw [pickF_hit hm hh] at hj
        rcases List.mem_append.1 hj with h1 | h1
        · exact pickF_not h m j h1
        · rw [List.mem_singleton.1 h1]
          intro e
          have e' : m = i := e
          rw [e', h] at hh
          cases hh
      · have e : pickF l x y n (m + 1) = pickF l x y n m := by simp [pickF, hm]
        rw [e] at hj
        exact pickF_not h m j hj
theorem blkK_not {f : Nat} {l : List UInt8} {x y : UInt8} {n i : Nat} (h : hit l x y i = false) (k : Nat) (z : Int) (hz : (blkK f l x y n n)[k]? = some z) : z ≠ (f : Int) + (i : Int) := by
  have hm := List.mem_of_getElem? hz
  unfold blkK at hm
  obtain ⟨j, hj, e⟩ := List.mem_map.1 hm
  have := pickF_not h n j hj
  omega
theorem pickF_more {l l' : List UInt8} {x y : UInt8} {n i : Nat} (h : hit l x y i = false) (h' : hit l' x y i = true) (hh : ∀ k, k ≠ i → hit l' x y k = hit l x y k) : ∀ m, m ≤ n → (pickF l' x y n m).length = (pickF l x y n m).length + if i < m then 1 else 0
  | 0, _ => by simp [pickF]
  | m + 1, hm => by
    have ih := pickF_more (n := n) h h' hh m (by omega)
    by_cases e : m = i
    · subst e
      rw [pickF_hit (by omega) h', pickF_miss h, List.length_append, ih]
      simp
    · have e2 := hh m e
      cases hx : hit l x y m with
      | true =>
        rw [pickF_hit (by omega) (e2.trans hx), pickF_hit (by omega) hx, List.length_append, List.length_append, ih]
        simp only [List.length_singleton]
        by_cases hi : i < m
        · rw [if_pos hi, if_pos (by omega)]
        · rw [if_neg hi, if_neg (by omega)]
      | false =>
        rw [pickF_miss (e2.trans hx), pickF_miss hx, ih]
        by_cases hi : i < m
        · rw [if_pos hi, if_pos (by omega)]
        · rw [if_neg hi, if_neg (by omega)]
theorem byteAt_set {l : List UInt8} {i k : Nat} {u : UInt8} (hi : i < l.length) : byteAt (l.set i u) k = if k = i then u.toNat else byteAt l k := by
  unfold byteAt
  by_cases e : k = i
  · subst e; simp [hi]
  · rw [if_neg e, List.getElem?_set_ne (fun h => e h.symm)]
theorem free_zero {l : List UInt8} {i : Nat} (h : freeI l = i) : byteAt l i = 0 ∧ i < l.length := by
  have h1 := Lib.indexByte_some (show Lib.indexByte l 0 = i from h)
  have h2 := freeI_lt l
  refine ⟨by unfold byteAt; rw [h1.1]; rfl, by omega⟩
theorem take_facts (f n i : Nat) (l : List UInt8) (h : freeI l = i) (hn : l.length = n) :
    hit l 1 3 i = false ∧ hit l 1 2 i = false ∧ i < n ∧ (blkK f (l.set i 2) 1 2 n n).length = (blkK f l 1 2 n n).length + 1 := by
  obtain ⟨h0, hi⟩ := free_zero h
  have e1 : hit l 1 3 i = false := by unfold hit; rw [h0]; rfl
  have e2 : hit l 1 2 i = false := by unfold hit; rw [h0]; rfl
  refine ⟨e1, e2, by omega, ?_⟩
  unfold blkK
  rw [List.length_map, List.length_map, pickF_more e2 (by unfold hit; rw [byteAt_set hi, if_pos rfl]; rfl) (fun k hk => by unfold hit; rw [byteAt_set hi, if_neg hk]) n (Nat.le_refl _), if_pos (by omega)]
theorem none_count {l : List UInt8} (h : freeI l = -1) : numL l 0 = 0 := by
  unfold numL
  rw [if_pos (by omega)]
  have h1 := Lib.indexByte_none (show Lib.indexByte l 0 = -1 from h)
  rw [show UInt8.ofNat (0 : Int).toNat = 0 from rfl, List.count_eq_zero]
  intro hm
  obtain ⟨k, hk, e⟩ := List.getElem_of_mem hm
  exact h1 k (by rw [List.getElem?_eq_getElem hk, e])

set_option maxRecDepth 100000 in
set_option maxHeartbeats 4000000 in
theorem BlocksSafe_any (x y : Nat) (A : Option Addr) (len cap : Nat) (L : List OpV) (w : World) (S : Nat → Prop) (hx : x < 65536) (hy : y < 256) (hL : Rd w S 2 A len (ocells L)) (hok : ∀ o ∈ L, o.ok) (hlen : len ≤ 9223372036854775807) (tc : TabC w) (ta : TabA w) (h3 : 2 ≤ w.heap.size) :
    Calls Tryd.prog 5 #[.int .u16 x, .int .u8 y, .slice A len cap] w (TrueNew w) := by
  have HL := Lib.hid hL
  have HK := Lib.hid hok
  have HT := Lib.hid tc
  have HA := Lib.hid ta
  clear hL hok tc ta
  go_enter Tryd.func5, Tryd.ntmps5
  go_wp2_with fail
  refine (known_any _ HT.out h3).mono ?_
  rintro e w0 ⟨rfl, hf0⟩
  have F0 := Lib.hid hf0
  clear hf0
  go_wp2_with fail
  refine (play_any x y A len cap L _ S hx hy (HL.out.fr0 F0.out) HK.out hlen (HT.out.fr0 F0.out) (HA.out.fr0 F0.out) (Nat.le_trans h3 F0.out.size)).mono ?_
  rintro e w1 ⟨g, b, c, b2, c2, l, rfl, hP⟩
  have hff : x % 1000 ≤ 1000 := by omega
  have hnn : 1 + y % 40 ≤ 40 := by omega
  generalize x % 1000 = f at *
  generalize 1 + y % 40 = n at *
  have M1 : Hid (Mine w (w1.alloc (.cells #[.int .i64 f, .slice (some ⟨b2, 0, none⟩) n c2] 28)) g b c f n l) :=
    Mine.fr0 ⟨hP.m.m, F0.out.trans hP.m.fr, Nat.le_trans F0.out.size hP.m.hg, Nat.le_trans F0.out.size hP.m.hb⟩ ((Fr.refl _ _).alloc _)
  clear hP HL HK F0
  unfold mv
  go_wp2_with fail
  refine (Old_row g b c f n l _ M1.out.m).mono ?_
  rintro e w2 ⟨A1, n1, k1, rfl, r1, hf2, hn1⟩
  have hbs : b < (w1.alloc (.cells #[.int .i64 f, .slice (some ⟨b2, 0, none⟩) n c2] 28)).heap.size := own_lt M1.out.m.own
  have R1 : Hid (Rd w2 (fun k => b < k) 1 A1 n1 ((blkK f l 1 3 n n).map (Value.int .i64))) := r1.mono (fun k hk => by omega)
  have M2 := Lib.hid (M1.out.fr0 hf2)
  clear r1 hf2 M1 hbs
  go_wp2_with fail
  refine (Used_row g b c f n l _ M2.out.m).mono ?_
  rintro e w3 ⟨A2, n2, k2, rfl, r2, hf3, hn2⟩
  have hbs : b < w2.heap.size := own_lt M2.out.m.own
  have R2 : Hid (Rd w3 (fun k => b < k) 1 A2 n2 ((blkK f l 1 2 n n).map (Value.int .i64))) := r2.mono (fun k hk => by omega)
  have R1' := Lib.hid (R1.out.fr0 hf3)
  have M3 := Lib.hid (M2.out.fr0 hf3)
  clear r2 hf3 M2 R1 hbs
  have HC := Lib.hid (Take_any g b c f n l _ M3.out.m)
  by_cases h0 : 0 ≤ freeI l
  · obtain ⟨i, hi⟩ := Int.eq_ofNat_of_zero_le h0
    obtain ⟨t1, t2, t3, t4⟩ := take_facts f n i l hi M3.out.m.len
    have E : takeB f l = (f : Int) + (i : Int) ∧ takeE l = 0 ∧ takeL l = l.set i 2 := by
      unfold takeB takeE takeL
      rw [if_pos h0, if_pos h0, if_pos h0, hi]
      exact ⟨rfl, rfl, by simp⟩
    rw [E.1, E.2.1, E.2.2] at HC
    have T1 := Lib.hid t1
    have T2 := Lib.hid t2
    have T4 := Lib.hid t4
    clear h0 hi E t1 t2 t4
    go_wp2_with fail
    refine HC.out.mono ?_
    rintro e w4 ⟨rfl, hf4, hm4⟩
    have M4 := Lib.hid (M3.out.step hf4 hm4)
    have Q1 := Lib.hid (R1'.out.fr hf4 (fun k hk e => by have e' : k = b := e; omega))
    have Q2 := Lib.hid (R2.out.fr hf4 (fun k hk e => by have e' : k = b := e; omega))
    clear hf4 hm4 HC R1' R2 M3
    go_wp2
    go_loop [14] (fun v => ∃ k : Nat, k ≤ n1 ∧ v = .int .i64 k) (fun v => n1 - (intOf v).toNat)
    case atStart => exact ⟨0, Nat.zero_le _, rfl⟩
    case round =>
      obtain ⟨k, hk, rfl⟩ := hrel
      by_cases hlt : k < n1
      · obtain ⟨a1, rfl, q⟩ := Q1.out.int_at hlt
        have hz : (blkK f l 1 3 n n)[k]? = some ((blkK f l 1 3 n n)[k]?.getD 0) := by
          have : k < (blkK f l 1 3 n n).length := by have := Q1.out.1; simp at this; omega
          rw [List.getElem?_eq_getElem this]; rfl
        have t5 : ((blkK f l 1 3 n n)[k]?.getD 0 == (f : Int) + (i : Int)) = false := beq_eq_false_iff_ne.2 (blkK_not T1.out k _ hz)
        clear hz
        generalize (blkK f l 1 3 n n)[k]?.getD 0 = z at *
        go_wp2
        go_round
        case rel => exact ⟨k + 1, by omega, by go_num⟩
        case measure => simp [intOf]; omega
      · obtain rfl : k = n1 := by omega
        go_wp2
        go_loop [15] (fun v => ∃ k : Nat, k ≤ n2 ∧ v = .int .i64 k) (fun v => n2 - (intOf v).toNat)
        case atStart => exact ⟨0, Nat.zero_le _, rfl⟩
        case round =>
          obtain ⟨j, hj, rfl⟩ := hrel
          by_cases hjt : j < n2
          · obtain ⟨a2, rfl, q⟩ := Q2.out.int_at hjt
            have hz : (blkK f l 1 2 n n)[j]? = some ((blkK f l 1 2 n n)[j]?.getD 0) := by
              have : j < (blkK f l 1 2 n n).length := by have := Q2.out.1; simp at this; omega
              rw [List.getElem?_eq_getElem this]; rfl
            have t5 : ((blkK f l 1 2 n n)[j]?.getD 0 == (f : Int) + (i : Int)) = false := beq_eq_false_iff_ne.2 (blkK_not T2.out j _ hz)
            clear hz
            generalize (blkK f l 1 2 n n)[j]?.getD 0 = z at *
            go_wp2
            go_round
            case rel => exact ⟨j + 1, by omega, by go_num⟩
            case measure => simp [intOf]; omega
          · obtain rfl : j = n2 := by omega
            go_wp2_with fail
            refine (First_any g b c f n _ _ M4.out.m).mono ?_
            rintro e w5 ⟨rfl, hf5⟩
            have F5 := Lib.hid hf5
            clear hf5
            go_wp2_with fail
            refine (First_any g b c f n _ _ (M4.out.fr0 F5.out).m).mono ?_
            rintro e w6 ⟨rfl, hf6⟩
            have F6 := Lib.hid (F5.out.trans hf6)
            clear hf6
            go_wp2_with fail
            refine (Count_any g b c f n _ _ (M4.out.fr0 F6.out).m).mono ?_
            rintro e w7 ⟨rfl, hf7⟩
            have F7 := Lib.hid (F6.out.trans hf7)
            clear hf7
            go_wp2_with fail
            refine (Used_row g b c f n _ _ (M4.out.fr0 F7.out).m).mono ?_
            rintro e w8 ⟨A8, n8, k8, rfl, r8, hf8, hn8⟩
            have F8 := Lib.hid (F7.out.trans hf8)
            have e8 : n8 = j + 1 := by
              have a := r8.1
              have d := Q2.out.1
              have t := T4.out
              simp only [List.length_map, Nat.mul_one] at a d
              omega
            subst e8
            clear hf8 r8
            go_wp2
            go_ret
            exact ⟨rfl, M4.out.fr.trans F8.out⟩
  · have hi : freeI l = -1 := by have := freeI_ge l; omega
    have E : takeB f l = 0 ∧ takeE l = 26 ∧ takeL l = l := by
      unfold takeB takeE takeL
      rw [if_neg h0, if_neg h0, if_neg h0]
      exact ⟨rfl, rfl, rfl⟩
    rw [E.1, E.2.1, E.2.2] at HC
    have HZ := Lib.hid (none_count hi)
    clear h0 hi E
    go_wp2_with fail
    refine HC.out.mono ?_
    rintro e w4 ⟨rfl, hf4, hm4⟩
    have M4 := Lib.hid (M3.out.step hf4 hm4)
    have D1 := Lib.hid (Number_any g b c f n l 0 _ M4.out.m)
    rw [HZ.out] at D1
    clear hf4 hm4 HC
    go_wp2_with fail
    refine D1.out.mono ?_
    rintro e w5 ⟨rfl, hf5⟩
    have F5 := Lib.hid (M4.out.fr.trans hf5)
    clear hf5 D1
    go_wp2
    go_ret
    exact ⟨rfl, F5.out⟩

theorem BlocksSafe_int (x y : Int) (A : Option Addr) (len cap : Nat) (L : List OpV) (w : World) (S : Nat → Prop) (hx : 0 ≤ x ∧ x < 65536) (hy : 0 ≤ y ∧ y < 256) (hL : Rd w S 2 A len (ocells L)) (hok : ∀ o ∈ L, o.ok) (hlen : len ≤ 9223372036854775807) (tc : TabC w) (ta : TabA w) :
    Calls Tryd.prog 5 #[.int .u16 x, .int .u8 y, .slice A len cap] w (TrueNew w) := by
  obtain ⟨a, rfl⟩ := Int.eq_ofNat_of_zero_le hx.1
  obtain ⟨b, rfl⟩ := Int.eq_ofNat_of_zero_le hy.1
  exact BlocksSafe_any a b A len cap L w S (by omega) (by omega) hL hok hlen tc ta (TabAt.size2 tc)
end Go.Proofs.YtejajafbopabmaaDoor
