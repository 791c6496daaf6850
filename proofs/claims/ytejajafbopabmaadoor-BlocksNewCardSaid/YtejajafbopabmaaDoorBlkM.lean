/- The reference's Load. -/
import Derived.Test.YtejajafbopabmaaDoorBlkL
import Derived.Test.YtejajafbopabmaaDoorRegion
import Derived.Test.YtejajafbopabmaaDoorBlkS
namespace Go.Proofs.YtejajafbopabmaaDoor
open Go.RowKit

set_option maxHeartbeats 1000000 in
theorem Load_bad (f n : Int) (A : Option Addr) (m cap : Nat) (w : World) (h : f < 0 ∨ 1073741824 < f ∨ n < 1 ∨ 65536 < n) :
    Calls Tryd.prog 27 #[.int .i64 f, .int .i64 n, .slice A m cap] w (Gives w (.tuple #[.pointer none, .int .i64 2])) := by
  go_enter Tryd.func27, Tryd.ntmps27
  go_wp2_with fail
  refine (New_bad f n _ h).mono ?_
  rintro e w1 ⟨rfl, hf1⟩
  clear h
  go_wp2
  go_ret2
  exact ⟨rfl, hf1⟩

theorem zero_set {w w2 : World} {R : Nat} {x y : Value} (hB : Blk w2 R 28 #[x, y]) (hF : Fr Nothing w w2) (hR0 : w.heap.size ≤ R) :
    let wF := (w2.setCell ⟨R, 0, none⟩ (.int .i64 0)).setCell ⟨R, 1, none⟩ (.slice none 0 0)
    (wF.cell? ⟨R, 0, none⟩ = some (.int .i64 0) ∧ wF.cell? ⟨R, 1, none⟩ = some (.slice none 0 0)) ∧ Fr Nothing w wF := by
  have h2 := hB.set2 (.int .i64 0) (.slice none 0 0)
  exact ⟨⟨h2.cell 0, h2.cell 1⟩, hF.set2 (fun h => by omega) _ _⟩

set_option maxRecDepth 100000 in
set_option maxHeartbeats 1000000 in
theorem rLoad_bad (f n : Int) (A : Option Addr) (m cap : Nat) (w : World) (h : f < 0 ∨ 1073741824 < f ∨ n < 1 ∨ 65536 < n) :
    Calls Tryd.prog 34 #[.int .i64 f, .int .i64 n, .slice A m cap] w (Gives w (.tuple #[zeroM, .int .i64 2])) := by
  have HB := Lib.hid (Blk.new w 28 #[.int .i64 0, .slice none 0 0])
  go_enter Tryd.func34, Tryd.ntmps34
  go_wp2_with fail
  refine (rNew_bad f n _ h).mono ?_
  rintro e w1 ⟨rfl, hf1⟩
  have B1 := Lib.hid ((HB.out.fr hf1 (fun x => x)).alloc (.cells #[.int .i64 0, .slice none 0 0] 28))
  have F1 : Hid (Fr Nothing w (w1.alloc (.cells #[.int .i64 0, .slice none 0 0] 28))) := (((Fr.refl _ _).alloc _).trans hf1).alloc _
  obtain ⟨g0, g1, g2, g3⟩ := B1.out.two
  clear h hf1 HB
  unfold zeroM
  go_wp2
  obtain ⟨⟨m0, m1⟩, q3⟩ := zero_set B1.out F1.out (Nat.le_refl _)
  exact bodyPost_ret (v := .tuple #[zeroM, .int .i64 2]) (by simp [results, Tryd.results34, go_sem, zeroM, m0, m1]) rfl ⟨rfl, q3⟩

def RLoaded (w : World) (f n : Nat) (r : Int × List UInt8) (e : Ending) (w' : World) : Prop :=
  (r.1 = 0 → ∃ b c, e = .returned (.tuple #[mv f b c n, .int .i64 0]) ∧ RM w' b c n r.2 ∧ Fr Nothing w w') ∧
  (r.1 ≠ 0 → e = .returned (.tuple #[zeroM, .int .i64 r.1]) ∧ Fr Nothing w w')

set_option maxRecDepth 100000 in
set_option maxHeartbeats 4000000 in
theorem rLoad_any (f n : Nat) (A : Option Addr) (m cap : Nat) (us : List Int) (w : World) (S : Nat → Prop) (hr : Rd w S 1 A m (us.map (Value.int .i64))) (hus : ∀ z ∈ us, -9223372036854775808 ≤ z ∧ z ≤ 9223372036854775807) (hf : f ≤ 1073741824) (h1 : 1 ≤ n) (hn : n ≤ 65536) (hm : m ≤ 1099511627776) :
    Calls Tryd.prog 34 #[.int .i64 f, .int .i64 n, .slice A m cap] w (RLoaded w f n (loadR f n (List.replicate n 0) us)) := by
  have HR := Lib.hid hr
  have HU := Lib.hid hus
  have HL : Hid (us.length = m) := by have := hr.1; simpa [Hid] using this
  have HB := Lib.hid (Blk.new w 28 #[.int .i64 0, .slice none 0 0])
  clear hr hus
  go_enter Tryd.func34, Tryd.ntmps34
  go_wp2_with fail
  refine (rNew_ok f n _ hf h1 hn).mono ?_
  rintro e w1 ⟨b2, c2, rfl, hr1, hf1⟩
  have B1 := Lib.hid ((HB.out.fr hf1 (fun x => x)).alloc (.cells #[.int .i64 f, .slice (some ⟨b2, 0, none⟩) n c2] 28))
  have F1 : Hid (Fr Nothing w (w1.alloc (.cells #[.int .i64 f, .slice (some ⟨b2, 0, none⟩) n c2] 28))) := (((Fr.refl _ _).alloc _).trans hf1).alloc _
  have R1 := Lib.hid (hr1.fr0 ((Fr.refl _ w1).alloc (.cells #[.int .i64 f, .slice (some ⟨b2, 0, none⟩) n c2] 28)))
  have X1 := Lib.hid (Blk.new w1 28 #[.int .i64 f, .slice (some ⟨b2, 0, none⟩) n c2])
  have HX : Hid (w.heap.size ≤ w1.heap.size ∧ w1.heap.size ≠ w.heap.size) := by
    have a := (HB.out.fr hf1 (fun x => x)).lt
    simp only [Hid]
    omega
  clear hr1 hf1 HB
  unfold mv
  go_wp2
  generalize w1.heap.size = X at *
  generalize (w1.alloc (.cells #[.int .i64 f, .slice (some ⟨b2, 0, none⟩) n c2] 28)) = W at *
  go_loopw [10] (fun i wr => ∃ k : Nat, k ≤ m ∧ i = .int .i64 k ∧ Fr Nothing w wr ∧ Blk wr w.heap.size 28 #[.int .i64 0, .slice none 0 0] ∧ Hid (∃ l b2 c2, RM wr b2 c2 n l ∧ Blk wr X 28 #[.int .i64 f, .slice (some ⟨b2, 0, none⟩) n c2] ∧ ok4 l ∧ loadR f n (List.replicate n 0) us = loadR f n l (us.drop k))) (fun i _ => m - (intOf i).toNat)
  case atStart => exact ⟨0, Nat.zero_le _, rfl, F1.out, B1.out, _, b2, c2, R1.out, X1.out, ok4_zeros n, by simp⟩
  case round =>
    obtain ⟨k, hk, rfl, hF, hB, HE⟩ := hrel
    obtain ⟨l, b3, c3, hR, hX, h4, hE⟩ := HE.out
    have KF := Lib.hid hF
    have KB := Lib.hid hB
    have KR := Lib.hid hR
    have KX := Lib.hid hX
    have K4 := Lib.hid h4
    have KE := Lib.hid hE
    clear hF hB hR hX h4 hE HE F1 B1 R1 X1
    by_cases hlt : k < m
    · obtain ⟨ad, rfl, q⟩ := HR.out.int_at hlt
      have hkl : k < us.length := by rw [HL.out]; exact hlt
      have hd : us.drop k = (us[k]?.getD 0) :: us.drop (k + 1) := by
        rw [List.drop_eq_getElem_cons hkl]
        simp [hkl]
      have hzb := HU.out (us[k]?.getD 0) (by simp [hkl])
      rw [hd] at KE
      have Q := Lib.hid q
      clear hd hkl q
      generalize us[k]?.getD 0 = z at *
      have q0 : ∀ y : In (Later wr), y.w.cell? ⟨X, 0, none⟩ = some (.int .i64 f) := fun y => (KX.out.fr y.h (fun x => x)).cell 0
      have q1 : ∀ y : In (Later wr), y.w.cell? ⟨X, 1, none⟩ = some (.slice (some ⟨b3, 0, none⟩) n c3) := fun y => (KX.out.fr y.h (fun x => x)).cell 1
      have q2 : ∀ y : In (Later wr), y.w.cell? (ad.add k) = some (.int .i64 z) := fun y => (KF.out.trans y.h).cellSome Q.out (fun x => x)
      have CH := Lib.hid (fun w' => rhas_any f b3 c3 n z w' hf hzb.1 hzb.2 hn)
      unfold mv at CH
      have hq : (k : Int) < (m : Int) := by omega
      go_wp2
      refine wp_region_in (Later wr) ((Fr.refl _ _).drew) (by kernel_rfl) (by kernel_rfl) ?_
      repeat (go_big_quiet_step ((go_at_call 56; exact In.later (CH.out _))))
      refine wpQuiet_nil ?_
      rintro _ ⟨y, rfl⟩
      have F2 := Lib.hid (KF.out.trans y.h)
      have B2 := Lib.hid (KB.out.fr y.h (fun x => x))
      have R2 := Lib.hid (KR.out.fr0 y.h)
      have X2 := Lib.hid (KX.out.fr y.h (fun x => x))
      generalize y.w = w2 at *
      clear q0 q1 q2 y CH KF KB KR KX
      rcases in_cases f n z with hz | ⟨i, hz, hi⟩
      · have E : Hid (loadR f n (List.replicate n 0) us = (2, l)) := KE.out.trans (by rw [loadR, if_pos hz])
        rw [hz]
        obtain ⟨g0, g1, g2, g3⟩ := B2.out.two
        clear hz KE
        go_wp2
        obtain ⟨⟨m0, m1⟩, q3⟩ := zero_set B2.out F2.out (Nat.le_refl _)
        refine bodyPost_ret (v := .tuple #[zeroM, .int .i64 2]) (by simp [results, Tryd.results34, go_sem, zeroM, m0, m1]) rfl ⟨fun h => ?_, fun _ => ?_⟩
        · rw [E.out] at h; cases h
        · rw [E.out]; exact ⟨rfl, q3⟩
      · have hin : isIn f n z = true := isIn_yes (by omega) (by omega)
        have hix : (z - (f : Int)).toNat = i := by omega
        have KE2 : Hid (loadR f n (List.replicate n 0) us = if byteAt l i ≠ 0 then (7, l) else loadR f n (l.set i 1) (us.drop (k + 1))) := KE.out.trans (by rw [loadR, if_neg (by rw [hin]; simp), hix])
        rw [hin]
        have hb4 := byteAt_lt K4.out i
        subst hz
        clear hin hix KE
        obtain ⟨x0, x1, _, _⟩ := X2.out.two
        have c2 := R2.out.at_ hi
        have c3' : w2.cell? (ad.add k) = some (.int .i64 ((f : Int) + (i : Int))) := F2.out.cellSome Q.out (fun x => x)
        have a1 : IntKind.i64.wrap ((f : Int) + (i : Int) - (f : Int)) = (i : Int) := (IntWalk.i64_in _ (by omega)).trans (by omega)
        have hi2 : (i : Int) < (n : Int) := by omega
        by_cases h0 : byteAt l i = 0
        · have E : Hid (loadR f n (List.replicate n 0) us = loadR f n (l.set i 1) (us.drop (k + 1))) := KE2.out.trans (by rw [if_neg (by simpa using h0)])
          rw [h0] at c2
          clear h0 KE2 hb4
          go_wp2
          go_quiet (fail)
          have F3 := Lib.hid ((F2.out.drewN nq).drew)
          have B3 := Lib.hid ((B2.out.drewN nq).drew)
          have R3 := Lib.hid (R2.out.fr0 (((Fr.refl _ w2).drewN nq).drew))
          have X3 := Lib.hid ((X2.out.drewN nq).drew)
          obtain ⟨v0, v1, _, _⟩ := X3.out.two
          have v2 : (w2.drewN nq).drew.cell? (ad.add k) = some (.int .i64 ((f : Int) + (i : Int))) := F3.out.cellSome Q.out (fun x => x)
          have HW := Lib.hid (with_any f b3 c3 n l i ((f : Int) + (i : Int)) 1 _ R3.out rfl hi hf)
          unfold mv at HW
          clear c2 c3' x0 x1 F2 B2 R2 X2
          generalize w2.drewN nq = w3 at *
          go_wp2
          go_still_tail 5, (by kernel_rfl)
          change wpList _ _ _ _ _ w3.drew
          go_wp2_with fail
          refine HW.out.mono ?_
          rintro e w4 ⟨b5, c5, rfl, hr4, hf4⟩
          have F4 := Lib.hid (F3.out.trans hf4)
          have B4 := Lib.hid (B3.out.fr hf4 (fun x => x))
          have X4 := Lib.hid (X3.out.fr hf4 (fun x => x))
          have R4 := Lib.hid hr4
          obtain ⟨y0, y1, y2, y3⟩ := X4.out.two
          clear hr4 hf4 HW F3 B3 R3 X3 v0 v1 v2
          unfold mv
          go_wp2
          go_roundw
          case rel =>
            exact ⟨k + 1, by omega, by go_num, F4.out.set2 (fun h => by have := HX.out; omega) _ _, B4.out.fr (fr_one2 w4 X _ _) (fun e => HX.out.2 (show X = w.heap.size from (show w.heap.size = X from e).symm)), l.set i 1, b5, c5, R4.out.fr (fr_one2 w4 X _ _) (R4.out.ne_blk X4.out (by decide)), X4.out.set2 _ _, ok4_set K4.out i 1 (by decide), E.out⟩
          case measure => simp [intOf]; omega
        · have E : Hid (loadR f n (List.replicate n 0) us = (7, l)) := KE2.out.trans (by rw [if_pos h0])
          have t1 : (((byteAt l i : Nat) : Int) != 0) = true := by simp; omega
          clear h0 KE2
          generalize byteAt l i = u at *
          go_wp2
          go_quiet (fail)
          have F3 := Lib.hid (F2.out.drewN nq)
          have B3 := Lib.hid (B2.out.drewN nq)
          obtain ⟨g0, g1, g2, g3⟩ := B3.out.two
          clear F2 B2
          generalize w2.drewN nq = w3 at *
          go_wp2
          obtain ⟨⟨m0, m1⟩, q3⟩ := zero_set B3.out F3.out (Nat.le_refl _)
          refine bodyPost_ret (v := .tuple #[zeroM, .int .i64 7]) (by simp [results, Tryd.results34, go_sem, zeroM, m0, m1]) rfl ⟨fun h => ?_, fun _ => ?_⟩
          · rw [E.out] at h; cases h
          · rw [E.out]; exact ⟨rfl, q3⟩
    · obtain rfl : k = m := by omega
      have E : Hid (loadR f n (List.replicate n 0) us = (0, l)) := KE.out.trans (by rw [List.drop_of_length_le (by rw [HL.out]; omega)]; rfl)
      obtain ⟨x0, x1, _, _⟩ := KX.out.two
      obtain ⟨g0, g1, g2, g3⟩ := KB.out.two
      clear KE
      go_wp2
      obtain ⟨⟨m0, m1⟩, q2, q3⟩ := ret_M (f := f) KB.out KR.out KF.out (Nat.le_refl _)
      refine bodyPost_ret (v := .tuple #[mv f b3 c3 n, .int .i64 0]) (by simp [results, Tryd.results34, go_sem, mv, m0, m1]) rfl ⟨fun _ => ?_, fun h => ?_⟩
      · rw [E.out]; exact ⟨b3, c3, rfl, q2, q3⟩
      · rw [E.out] at h; exact absurd rfl h
end Go.Proofs.YtejajafbopabmaaDoor
