/- blocks.Load, and the walk of BlocksGreat. -/
import Derived.Test.YtejajafbopabmaaDoorBlkX
namespace Go.Proofs.YtejajafbopabmaaDoor
open Go.RowKit

/-- The error of loading, and the states. -/
def loadR (f n : Nat) : List UInt8 → List Int → Int × List UInt8
  | l, [] => (0, l)
  | l, z :: us => if isIn f n z = false then (2, l) else if byteAt l (z - f).toNat ≠ 0 then (7, l) else loadR f n (l.set (z - f).toNat 1) us

def Loaded (w : World) (f n : Nat) (r : Int × List UInt8) (e : Ending) (w' : World) : Prop :=
  (r.1 = 0 → ∃ g b c, e = .returned (.tuple #[.pointer (some ⟨g, 0, none⟩), .int .i64 0]) ∧ Mine w w' g b c f n r.2) ∧
  (r.1 ≠ 0 → e = .returned (.tuple #[.pointer none, .int .i64 r.1]) ∧ Fr Nothing w w')

set_option maxRecDepth 100000 in
set_option maxHeartbeats 2000000 in
theorem Load_any (f n : Nat) (A : Option Addr) (m cap : Nat) (us : List Int) (w : World) (S : Nat → Prop) (hr : Rd w S 1 A m (us.map (Value.int .i64))) (hf : f ≤ 1073741824) (h1 : 1 ≤ n) (hn : n ≤ 65536) (hm : m ≤ 1099511627776) (h3 : 2 ≤ w.heap.size) :
    Calls Tryd.prog 27 #[.int .i64 f, .int .i64 n, .slice A m cap] w (Loaded w f n (loadR f n (List.replicate n 0) us)) := by
  have HR := Lib.hid hr
  have HL : Hid (us.length = m) := by have := hr.1; simpa [Hid] using this
  clear hr
  go_enter Tryd.func27, Tryd.ntmps27
  go_wp2_with fail
  refine (New_ok f n _ hf h1 hn h3).mono ?_
  rintro e w1 ⟨g, b, c, rfl, hm1, hf1, hg1, hb1⟩
  have M1 : Hid (Mine w w1 g b c f n (List.replicate n 0)) := ⟨hm1, hf1, hg1, hb1⟩
  clear hm1 hf1 hg1 hb1
  go_wp2
  go_loopw [23] (fun i wr => ∃ k : Nat, k ≤ m ∧ i = .int .i64 k ∧ Hid (∃ l, Mine w wr g b c f n l ∧ loadR f n (List.replicate n 0) us = loadR f n l (us.drop k))) (fun i _ => m - (intOf i).toNat)
  case atStart => exact ⟨0, Nat.zero_le _, rfl, _, M1.out, by simp⟩
  case round =>
    obtain ⟨k, hk, rfl, HE⟩ := hrel
    obtain ⟨l, hM, hE⟩ := HE.out
    have KM := Lib.hid hM
    have KE := Lib.hid hE
    clear hM hE HE M1
    by_cases hlt : k < m
    · obtain ⟨ad, rfl, q⟩ := (HR.out.fr0 KM.out.fr).int_at hlt
      have hd : us.drop k = (us[k]?.getD 0) :: us.drop (k + 1) := by
        have hkl : k < us.length := by rw [HL.out]; exact hlt
        rw [List.drop_eq_getElem_cons hkl]
        simp [hkl]
      rw [hd] at KE
      clear hd
      generalize us[k]?.getD 0 = z at *
      have CH := Lib.hid (has_any g b c f n l z wr KM.out.m)
      rcases in_cases f n z with hz | ⟨i, hz, hi⟩
      · have E : Hid (loadR f n (List.replicate n 0) us = (2, l)) := KE.out.trans (by rw [loadR, if_pos hz])
        rw [hz] at CH
        clear hz KE
        go_wp2_with fail
        refine CH.out.mono ?_
        rintro e w2 ⟨rfl, hf2⟩
        have F2 := Lib.hid (KM.out.fr.trans hf2)
        clear hf2 CH
        go_wp2
        go_ret2
        refine ⟨fun h => ?_, fun _ => ?_⟩
        · rw [E.out] at h; cases h
        · rw [E.out]; exact ⟨rfl, F2.out⟩
      · have hin : isIn f n z = true := isIn_yes (by omega) (by omega)
        have hix : (z - (f : Int)).toNat = i := by omega
        rw [hin] at CH
        have KE2 : Hid (loadR f n (List.replicate n 0) us = if byteAt l i ≠ 0 then (7, l) else loadR f n (l.set i 1) (us.drop (k + 1))) := KE.out.trans (by rw [loadR, if_neg (by rw [hin]; simp), hix])
        subst hz
        clear hin hix KE
        have hb4 := byteAt_lt KM.out.m.o4 i
        go_wp2_with fail
        refine CH.out.mono ?_
        rintro e w2 ⟨rfl, hf2⟩
        have M2 := Lib.hid (KM.out.fr0 hf2)
        have c1 := M2.out.m.c1
        have c2 := M2.out.m.at_ hi
        have c3 := M2.out.m.free i
        have a1 : (f : Int) + (i : Int) - (f : Int) = (i : Int) := by omega
        have hi2 : (i : Int) < (n : Int) := by omega
        clear hf2 CH KM q
        by_cases h0 : byteAt l i = 0
        · have E : Hid (loadR f n (List.replicate n 0) us = loadR f n (l.set i 1) (us.drop (k + 1))) := KE2.out.trans (by rw [if_neg (by simpa using h0)])
          rw [h0] at c2
          clear h0 KE2 hb4
          have M3 : Hid (Mine w (w2.setCell ⟨b, i, none⟩ (.int .u8 1)) g b c f n (l.set i 1)) := M2.out.step fr_set (M2.out.m.set i 1 (by decide))
          go_wp2
          go_roundw
          case rel => exact ⟨k + 1, by omega, by go_num, _, M3.out, E.out⟩
          case measure => simp [intOf]; omega
        · have E : Hid (loadR f n (List.replicate n 0) us = (7, l)) := KE2.out.trans (by rw [if_pos h0])
          have t1 : (((byteAt l i : Nat) : Int) != 0) = true := by simp; omega
          clear h0 KE2
          generalize byteAt l i = u at *
          go_wp2
          go_ret2
          refine ⟨fun h => ?_, fun _ => ?_⟩
          · rw [E.out] at h; cases h
          · rw [E.out]; exact ⟨rfl, M2.out.fr⟩
    · obtain rfl : k = m := by omega
      have E : Hid (loadR f n (List.replicate n 0) us = (0, l)) := KE.out.trans (by rw [List.drop_of_length_le (by rw [HL.out]; omega)]; rfl)
      clear KE
      go_wp2
      go_ret2
      refine ⟨fun _ => ?_, fun h => ?_⟩
      · rw [E.out]; exact ⟨g, b, c, rfl, KM.out⟩
      · rw [E.out] at h; exact absurd rfl h

theorem great_list (n : Nat) : ((List.replicate (n + 2) (0 : UInt8)).set (n + 1) 1).set 0 2 = 2 :: (List.replicate n 0 ++ [1]) := by
  rw [List.replicate_succ, List.set_cons_succ, List.set_cons_zero, List.replicate_succ', List.set_append_right _ _ (by simp)]
  simp
theorem great_num (n : Nat) : numL (2 :: (List.replicate n (0 : UInt8) ++ [1])) 0 = n := by
  unfold numL
  rw [if_pos (by omega)]
  simp [List.count_append]
theorem great_free (n : Nat) : freeI ((List.replicate (n + 2) (0 : UInt8)).set (n + 1) 1) = 0 := by
  have := freeI_at ((List.replicate (n + 2) (0 : UInt8)).set (n + 1) 1) 0 (fun j hj => by omega) (by simp) (by simp [byteAt, List.replicate_succ])
  simpa using this
theorem great_last (n : Nat) : byteAt (2 :: (List.replicate n (0 : UInt8) ++ [1])) (n + 1) = 1 := by
  simp [byteAt]

set_option maxRecDepth 100000 in
set_option maxHeartbeats 2000000 in
theorem BlocksGreat_any (f : Nat) (w : World) (hx : f < 65536) (tc : TabC w) (h3 : 2 ≤ w.heap.size) :
    Calls Tryd.prog 6 #[.int .u16 f] w (TrueNew w) := by
  have HT := Lib.hid tc
  clear tc
  go_enter Tryd.func6, Tryd.ntmps6
  go_wp2_with fail
  refine (known_any _ HT.out h3).mono ?_
  rintro e w0 ⟨rfl, hf0⟩
  have F0 := Lib.hid hf0
  clear hf0
  obtain ⟨N, hN⟩ : ∃ N : Nat, N = 65534 := ⟨_, rfl⟩
  have e1 : loadR f 65536 (List.replicate 65536 0) [(f : Int) + 65535] = (0, (List.replicate (N + 2) 0).set (N + 1) 1) := by
    rw [loadR, if_neg (by rw [isIn_yes (by omega) (by omega)]; simp), show ((f : Int) + 65535 - (f : Int)).toNat = N + 1 by omega, show 65536 = N + 2 by omega]
    rw [if_neg (by simp [byteAt])]
    rfl
  have rr : Rd (w0.alloc (.cells #[.int .i64 ((f : Int) + 65535)] 3)) (fun k => k = w0.heap.size) 1 (some ⟨w0.heap.size, 0, none⟩) 1 (([(f : Int) + 65535] : List Int).map (Value.int .i64)) := rd_new w0 #[.int .i64 ((f : Int) + 65535)] 3 1 1 rfl
  have CL := Lib.hid (Load_any f 65536 _ 1 1 [(f : Int) + 65535] _ _ rr (by omega) (by omega) (by omega) (by omega) (Nat.le_trans h3 (F0.out.alloc _).size))
  rw [e1] at CL
  have EF := Lib.hid (great_free N)
  have EL := Lib.hid (great_list N)
  have EN := Lib.hid (great_num N)
  have EB := Lib.hid (great_last N)
  have HN := Lib.hid hN
  clear e1 rr hN
  have s1 : (f : Int) + 65536 - 1 = (f : Int) + 65535 := by omega
  go_wp2_with fail
  refine CL.out.mono ?_
  rintro e w1 ⟨hx1, _⟩
  obtain ⟨g, b, c, rfl, hm1⟩ := hx1 rfl
  have M1 := Lib.hid hm1
  clear hm1 hx1 CL
  have CT := Lib.hid (Take_any g b c f 65536 _ _ M1.out.m)
  have ET : takeB f ((List.replicate (N + 2) 0).set (N + 1) 1) = (f : Int) ∧ takeE ((List.replicate (N + 2) 0).set (N + 1) 1) = 0 ∧ takeL ((List.replicate (N + 2) 0).set (N + 1) 1) = 2 :: (List.replicate N 0 ++ [1]) := by
    unfold takeB takeE takeL
    rw [EF.out, if_pos (by omega), if_pos (by omega), if_pos (by omega), show (0 : Int).toNat = 0 from rfl, EL.out]
    exact ⟨by omega, rfl, rfl⟩
  rw [ET.1, ET.2.1, ET.2.2] at CT
  clear ET
  go_wp2_with fail
  refine CT.out.mono ?_
  rintro e w2 ⟨rfl, hf2, hm2⟩
  have M2 := Lib.hid (M1.out.step hf2 hm2)
  clear hf2 hm2 CT M1
  have CS := Lib.hid (State_in g b c f 65536 _ (N + 1) ((f : Int) + 65535) _ M2.out.m (by have := HN.out; omega) (by have := HN.out; omega))
  rw [EB.out] at CS
  go_wp2_with fail
  refine CS.out.mono ?_
  rintro e w3 ⟨rfl, hf3⟩
  have M3 := Lib.hid (M2.out.fr0 hf3)
  clear hf3 CS M2
  go_wp2_with fail
  refine (State_out g b c f 65536 _ ((f : Int) + 65536) _ M3.out.m (isIn_hi (by omega))).mono ?_
  rintro e w4 ⟨rfl, hf4⟩
  have M4 := Lib.hid (M3.out.fr0 hf4)
  clear hf4 M3
  have CN := Lib.hid (Number_any g b c f 65536 _ 0 _ M4.out.m)
  rw [EN.out, HN.out] at CN
  go_wp2_with fail
  refine CN.out.mono ?_
  rintro e w5 ⟨rfl, hf5⟩
  have F5 := Lib.hid (F0.out.trans (((Fr.refl _ _).alloc _).trans (M4.out.fr.trans hf5)))
  clear hf5 CN
  go_wp2
  go_ret
  exact ⟨rfl, F5.out⟩

theorem TabAt.size3 {t : UInt8 → UInt8} {w : World} (h : TabAt 1 t w) : 2 ≤ w.heap.size := by
  have e := h 0 (by omega)
  rw [tabV_at t 0 (by omega)] at e
  have := World.block_lt_of_cell? w _ e
  simp at this
  omega
theorem BlocksGreat_int (x : Int) (w : World) (hx : 0 ≤ x ∧ x < 65536) (tc : TabC w) :
    Calls Tryd.prog 6 #[.int .u16 x] w (TrueNew w) := by
  obtain ⟨a, rfl⟩ := Int.eq_ofNat_of_zero_le hx.1
  exact BlocksGreat_any a w (by omega) tc (TabAt.size3 tc)
end Go.Proofs.YtejajafbopabmaaDoor
