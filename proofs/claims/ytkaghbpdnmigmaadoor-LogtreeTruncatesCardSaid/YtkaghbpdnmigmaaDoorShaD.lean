/- The reference's schedule. -/
import Derived.Test.YtkaghbpdnmigmaaDoorGwA
import Derived.StillTailTactics
import Derived.Deep.RegionWith
namespace Go.Proofs.YtkaghbpdnmigmaaDoor
open Go.RowKit

theorem info64 : (Tryd.prog.info? 122).map (·.size) = some 64 := by kernel_rfl

set_option maxRecDepth 100000 in
set_option maxHeartbeats 1000000 in
theorem schedule_any (bb ob c : Nat) (b : List UInt8) (w : World) (hB : ∀ j, j < 64 → w.cell? ⟨bb, ob + j, none⟩ = some (bvI (b[j]?.getD 0))) :
    Calls Tryd.prog 77 #[.slice (some ⟨bb, ob, none⟩) 64 c] w (Same' w (.agg ((schedL b 64).map u32v).toArray)) := by
  have HB := Lib.hid hB
  clear hB
  go_enter Tryd.func77, Tryd.ntmps77
  go_upto_region 1 with fail
  generalize hw : w.alloc _ = w1
  obtain ⟨cs, hcs, hB⟩ : ∃ cs : Array Value, cs.size = 64 ∧ Blk w1 w.heap.size 122 cs := ⟨_, rfl, by rw [← hw]; exact Blk.new w _ _⟩
  have HF : Hid (Fr Nothing w w1) := by rw [← hw]; exact (Fr.refl _ _).alloc _
  have HR := Lib.hid hB
  have HC := Lib.hid hcs
  clear hw hB hcs
  generalize hg : w.heap.size = g0 at *
  have HG := Lib.hid hg
  clear hg
  go_upto_region 2 with fail
  generalize hw : w1.alloc _ = w2
  have HS : Hid (SchedW w1 w2 w1.heap.size (schedL b 0)) := by rw [← hw]; exact ⟨(Fr.refl _ _).alloc _, rfl, Blk.new _ _ _⟩
  clear hw
  generalize w1.heap.size = g at *
  go_wp2
  go_loopw [4] (fun i wr => ∃ k : Nat, k ≤ 64 ∧ i = .int .i64 k ∧ SchedW w1 wr g (schedL b k)) (fun i _ => 64 - (intOf i).toNat)
  case atStart => exact ⟨0, by omega, rfl, HS.out⟩
  case round =>
    obtain ⟨k, hk, rfl, hw⟩ := hrel
    have HW := Lib.hid hw
    clear hw HS
    by_cases hk64 : k < 64
    · have hkI : (k : Int) < 64 := by omega
      by_cases hk16 : k < 16
      · as_aux_lemma =>
          have c0 : ∀ j, j < 64 → wr.drew.cell? ⟨bb, ob + j, none⟩ = some (bvI (b[j]?.getD 0)) := fun j hj => (HF.out.trans HW.out.1).cellSome (HB.out j hj) (fun x => x)
          have e0 := c0 (4 * k) (by omega)
          have e1 := c0 (4 * k + 1) (by omega)
          have e2 := c0 (4 * k + 2) (by omega)
          have e3 := c0 (4 * k + 3) (by omega)
          have hx : wAt b k = word4 ((b[4 * k]?.getD 0).toNat) ((b[4 * k + 1]?.getD 0).toNat) ((b[4 * k + 2]?.getD 0).toNat) ((b[4 * k + 3]?.getD 0).toNat) := rfl
          have b0 := (b[4 * k]?.getD 0).toNat_lt
          have b1 := (b[4 * k + 1]?.getD 0).toNat_lt
          have b2 := (b[4 * k + 2]?.getD 0).toNat_lt
          have b3 := (b[4 * k + 3]?.getD 0).toNat_lt
          unfold bvI at e0 e1 e2 e3
          generalize (b[4 * k]?.getD 0).toNat = x0 at *
          generalize (b[4 * k + 1]?.getD 0).toNat = x1 at *
          generalize (b[4 * k + 2]?.getD 0).toNat = x2 at *
          generalize (b[4 * k + 3]?.getD 0).toNat = x3 at *
          have HX := Lib.hid hx
          clear hx c0
          have m0 : IntKind.i64.wrap (4 * (k : Int)) = ((4 * k : Nat) : Int) := (IntWalk.i64_in _ (by omega)).trans (by omega)
          have m1 : IntKind.i64.wrap (((4 * k : Nat) : Int) + 1) = ((4 * k + 1 : Nat) : Int) := (IntWalk.i64_in _ (by omega)).trans (by omega)
          have m2 : IntKind.i64.wrap (((4 * k : Nat) : Int) + 2) = ((4 * k + 2 : Nat) : Int) := (IntWalk.i64_in _ (by omega)).trans (by omega)
          have m3 : IntKind.i64.wrap (((4 * k : Nat) : Int) + 3) = ((4 * k + 3 : Nat) : Int) := (IntWalk.i64_in _ (by omega)).trans (by omega)
          have q0 : ((4 * k : Nat) : Int) < 64 := by omega
          have q1 : ((4 * k + 1 : Nat) : Int) < 64 := by omega
          have q2 : ((4 * k + 2 : Nat) : Int) < 64 := by omega
          have q3 : ((4 * k + 3 : Nat) : Int) < 64 := by omega
          have hk16I : (k : Int) < 16 := by omega
          generalize 4 * k + 1 = i1 at *
          generalize 4 * k + 2 = i2 at *
          generalize 4 * k + 3 = i3 at *
          generalize 4 * k = i0 at *
          have w0 : IntKind.u32.wrap (x0 : Int) = (x0 : Int) := IntWalk.u32_in _ (by omega)
          have w1 : IntKind.u32.wrap (x1 : Int) = (x1 : Int) := IntWalk.u32_in _ (by omega)
          have w2 : IntKind.u32.wrap (x2 : Int) = (x2 : Int) := IntWalk.u32_in _ (by omega)
          have w3 : IntKind.u32.wrap (x3 : Int) = (x3 : Int) := IntWalk.u32_in _ (by omega)
          obtain ⟨p0, p1, p2, s1, s2, y0, y1, y2, z1, z2, z3⟩ := word_sums x0 x1 x2 x3 b0 b1 b2 b3
          rw [← HX.out] at z3
          obtain ⟨uk, huk⟩ := HW.out.at_ (k := k) (by omega)
          have huk2 : wr.drew.cell? ⟨g, k, none⟩ = some uk := huk
          have hfr : wr.drew.frozen? ⟨g, k, none⟩ = false := HW.out.2.2.frozen k
          clear huk
          go_wp2
          go_still_tail 35, (by kernel_rfl)
          change wpList _ _ _ _ _ wr.drew
          go_wp2
          go_roundw
          case rel =>
            refine ⟨k + 1, by omega, by go_num, ?_⟩
            have h := HW.out.drew.put (schedL_length b k) (by omega) (wAt b k)
            have e : schedL b (k + 1) = schedL b k ++ [wAt b k] := by simp [schedL, hk16]
            rw [e]
            exact h
          case measure => simp [intOf]; omega
      · as_aux_lemma =>
          have hd16 : decide ((k : Int) < 16) = false := by simp; omega
          have hl : (schedL b k).length = k := schedL_length b k
          have c15 := HW.out.get (k := k - 15) (by omega)
          have c2 := HW.out.get (k := k - 2) (by omega)
          have m15 : IntKind.i64.wrap ((k : Int) - 15) = ((k - 15 : Nat) : Int) := (IntWalk.i64_in _ (by omega)).trans (by omega)
          have m2 : IntKind.i64.wrap ((k : Int) - 2) = ((k - 2 : Nat) : Int) := (IntWalk.i64_in _ (by omega)).trans (by omega)
          have q15 : ((k - 15 : Nat) : Int) < 64 := by omega
          have q2 : ((k - 2 : Nat) : Int) < 64 := by omega
          obtain ⟨x15, hx15⟩ : ∃ x, x = (schedL b k)[k - 15]?.getD 0 := ⟨_, rfl⟩
          obtain ⟨x2, hx2⟩ : ∃ x, x = (schedL b k)[k - 2]?.getD 0 := ⟨_, rfl⟩
          obtain ⟨i15, hi15⟩ : ∃ x, x = k - 15 := ⟨_, rfl⟩
          obtain ⟨i2, hi2⟩ : ∃ x, x = k - 2 := ⟨_, rfl⟩
          rw [← hx15] at c15
          rw [← hx2] at c2
          rw [← hi15] at c15 m15 q15
          rw [← hi2] at c2 m2 q2
          unfold u32v at c15 c2
          have HL := Lib.hid hl
          have HX15 := Lib.hid hx15
          have HX2 := Lib.hid hx2
          clear hl hx15 hx2 hi15 hi2
          go_wp2
          go_quiet (fail)
          have L15 : x15 < 4294967296 := sched_lt _ _ _ _ HX15.out
          have L2 : x2 < 4294967296 := sched_lt _ _ _ _ HX2.out
          obtain ⟨r1, r2, r3⟩ := sig0_steps x15 L15
          obtain ⟨r4, r5, r6⟩ := sig1_steps x2 L2
          have V0 := Lib.hid (HW.out.drewN nq)
          clear HW c15 c2
          generalize wr.drewN nq = y0 at *
          go_wp2_with fail
          refine (turn_any 7 x15 _ (by omega) (by omega) L15).mono ?_
          rintro e y1 ⟨rfl, n1, rfl⟩
          have V1 := Lib.hid (V0.out.drewN n1)
          generalize y0.drewN n1 = y1 at *
          go_wp2_with fail
          refine (turn_any 18 x15 _ (by omega) (by omega) L15).mono ?_
          rintro e y2 ⟨rfl, n2, rfl⟩
          have V2 := Lib.hid (V1.out.drewN n2)
          generalize y1.drewN n2 = y2 at *
          go_wp2_with fail
          refine (turn_any 17 x2 _ (by omega) (by omega) L2).mono ?_
          rintro e y3 ⟨rfl, n3, rfl⟩
          have V3 := Lib.hid (V2.out.drewN n3)
          generalize y2.drewN n3 = y3 at *
          go_wp2_with fail
          refine (turn_any 19 x2 _ (by omega) (by omega) L2).mono ?_
          rintro e y4 ⟨rfl, n4, rfl⟩
          have V4 := Lib.hid (V3.out.drewN n4).drew
          generalize y3.drewN n4 = wz at *
          clear V0 V1 V2 V3
          have c16 := V4.out.get (k := k - 16) (by rw [HL.out]; omega)
          have c7 := V4.out.get (k := k - 7) (by rw [HL.out]; omega)
          have m16 : IntKind.i64.wrap ((k : Int) - 16) = ((k - 16 : Nat) : Int) := (IntWalk.i64_in _ (by omega)).trans (by omega)
          have m7 : IntKind.i64.wrap ((k : Int) - 7) = ((k - 7 : Nat) : Int) := (IntWalk.i64_in _ (by omega)).trans (by omega)
          have q16 : ((k - 16 : Nat) : Int) < 64 := by omega
          have q7 : ((k - 7 : Nat) : Int) < 64 := by omega
          obtain ⟨x16, hx16⟩ : ∃ x, x = (schedL b k)[k - 16]?.getD 0 := ⟨_, rfl⟩
          obtain ⟨x7, hx7⟩ : ∃ x, x = (schedL b k)[k - 7]?.getD 0 := ⟨_, rfl⟩
          obtain ⟨i16, hi16⟩ : ∃ x, x = k - 16 := ⟨_, rfl⟩
          obtain ⟨i7, hi7⟩ : ∃ x, x = k - 7 := ⟨_, rfl⟩
          rw [← hx16] at c16
          rw [← hx7] at c7
          rw [← hi16] at c16 m16 q16
          rw [← hi7] at c7 m7 q7
          unfold u32v at c16 c7
          have HX16 := Lib.hid hx16
          have HX7 := Lib.hid hx7
          clear hx16 hx7 hi16 hi7
          have a1 := wrap_add32 x16 (sig0 x15)
          have a2 := wrap_add32 (add32 x16 (sig0 x15)) x7
          have a3 := wrap_add32 (add32 (add32 x16 (sig0 x15)) x7) (sig1 x2)
          obtain ⟨uk, huk⟩ := V4.out.at_ (k := k) (by omega)
          have hfr := V4.out.2.2.frozen k
          go_wp2
          go_still_tail 15, (by kernel_rfl)
          change wpList _ _ _ _ _ wz.drew
          go_wp2
          go_roundw
          case rel =>
            refine ⟨k + 1, by omega, by go_num, ?_⟩
            have h := V4.out.put HL.out hk64 (add32 (add32 (add32 x16 (sig0 x15)) x7) (sig1 x2))
            have e : schedL b (k + 1) = schedL b k ++ [add32 (add32 (add32 x16 (sig0 x15)) x7) (sig1 x2)] := by
              rw [schedL, if_neg (by omega), HX16.out, HX15.out, HX7.out, HX2.out]
            rw [e]
            exact h
          case measure => simp [intOf]; omega
    · have hd64 : decide ((k : Int) < 64) = false := by simp; omega
      rw [show k = 64 by omega] at HW
      obtain ⟨KA, hKA⟩ : ∃ KA, KA = ((schedL b 64).map u32v).toArray := ⟨_, rfl⟩
      have hlen : KA.size = 64 := by rw [hKA]; simp [schedL_length]
      have hone : KA.all (·.oneCell') = true := by
        rw [hKA, Array.all_eq_true_iff_forall_mem]
        intro v hv
        simp only [List.mem_toArray, List.mem_map] at hv
        obtain ⟨x, _, rfl⟩ := hv
        rfl
      have hSB : Blk wr g 122 KA := by
        have := HW.out.2.2
        rw [schedL_length] at this
        simpa [hKA] using this
      have HKA := Lib.hid hKA
      have R2 := Lib.hid (HR.out.fr HW.out.1 (fun x => x))
      have F2 := Lib.hid (HF.out.trans HW.out.1)
      have HSB := Lib.hid hSB
      have HI : Hid ((Tryd.prog.info? 122).map (·.size) = some KA.size) := by
        rw [hlen]
        exact info64
      have HLN := Lib.hid hlen
      have HON := Lib.hid hone
      clear hSB hKA hlen hone HW
      go_wp2_with (first | (refine wpList_load_row rfl 122 _ rfl _ rfl _ KA _ _ HSB.out Tryd.underlying122 rfl HI.out ?_) | (refine wpList_store_row rfl 122 _ _ rfl _ KA rfl rfl _ _ R2.out HI.out (by rw [HC.out, HLN.out]) HON.out ?_))
      have HB2 := Lib.hid (heap_setRow_same (cs := KA) R2.out)
      have HF2 : Hid (Fr Nothing w (wr.setRow g0 KA)) := F2.out.setRow (fun h => by have := HG.out; omega) KA
      exact bodyPost_ret (results_cell_row (fn := Tryd.f77) (p := 2) (ty := 122) Tryd.results77 _ (wr.setRow g0 KA) g0 122 KA (0, 0) _ rfl HB2.out Tryd.underlying122 rfl HI.out) rfl ⟨by rw [HKA.out], HF2.out⟩
end Go.Proofs.YtkaghbpdnmigmaaDoor
