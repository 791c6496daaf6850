/- blocks.Decode of what is no encoding. -/
import Derived.Test.YtejajafbopabmaaDoorBlkG
namespace Go.Proofs.YtejajafbopabmaaDoor
open Go.RowKit

set_option maxRecDepth 100000 in
set_option maxHeartbeats 4000000 in
theorem Decode_close (s : ByteArray) (w : World) (hs : s.size ≤ 1099511627776) (e4 : closeE (rs3 (strL s)).2 ≠ 0) :
    Calls Tryd.prog 35 #[.string s] w (Gives w (.tuple #[.pointer none, .int .i64 3])) := by
  obtain ⟨cc, w1, hcv, hf1, hr1⟩ := conv_bytes w s
  have HF1 := Lib.hid hf1
  have HR1 := Lib.hid hr1
  have HE4 := Lib.hid e4
  clear hf1 hr1 e4
  go_enter Tryd.func35, Tryd.ntmps35
  go_wp2_with fail
  refine (NewReader_any _ _ _ (strL s) _ _ HR1.out hs).mono ?_
  rintro e w2 ⟨g, S, rfl, hr2, hf2, hg2, hS2⟩
  have HR2 := Lib.hid hr2
  have HF2 := Lib.hid (HF1.out.trans hf2)
  have HG2 : Hid (w.heap.size ≤ g) := Nat.le_trans HF1.out.size hg2
  clear hr2 hf2 hg2 hS2 hcv HR1 HF1
  go_wp2_with fail
  refine (rdNumber_any g S _ _ _ 1073741824 _ HR2.out).mono ?_
  rintro e w3 ⟨rfl, hs3⟩
  have HS3 : Hid (RrStep w2 g S w3 (rs1 (strL s)).2.1 (rs1 (strL s)).2.2.1 (rs1 (strL s)).2.2.2) := hs3
  clear hs3
  generalize (rStep 0 (pNumber 1073741824) (strL s, 0, 0)).1 = V1 at *
  go_wp2_with fail
  refine (rdNumber_any g S _ _ _ 65536 _ HS3.out.rr).mono ?_
  rintro e w4 ⟨rfl, hs4⟩
  have HS4 : Hid (RrStep w3 g S w4 (rs2 (strL s)).2.1 (rs2 (strL s)).2.2.1 (rs2 (strL s)).2.2.2) := hs4
  clear hs4
  generalize (rStep 0 (pNumber 65536) ((rs1 (strL s)).2.1, (rs1 (strL s)).2.2.1, (rs1 (strL s)).2.2.2)).1 = V2 at *
  go_wp2_with fail
  refine (rText_any g S _ _ _ 65536 _ HS4.out.rr).mono ?_
  rintro e w5 ⟨rfl, hs5⟩
  have HS5 : Hid (RrStep w4 g S w5 (rs3 (strL s)).2.1 (rs3 (strL s)).2.2.1 (rs3 (strL s)).2.2.2) := hs5
  clear hs5
  generalize (rStep [] (pText 65536) ((rs2 (strL s)).2.1, (rs2 (strL s)).2.2.1, (rs2 (strL s)).2.2.2)).1 = V3 at *
  have HF5 : Hid (Fr Nothing w w5) := by
    refine HF2.out.then_ ((HS3.out.fr.trans HS4.out.fr).trans HS5.out.fr) (fun i hi e => ?_)
    have e' : i = g := e
    have := HG2.out
    omega
  have HC := Lib.hid (rClose_any g S _ _ _ _ HS5.out.rr)
  change Hid (Calls _ _ _ _ fun e w' => e = .returned (.int .i64 (closeE (rs3 (strL s)).2)) ∧ _ = w') at HC
  have hb4 : (closeE (rs3 (strL s)).2 != 0) = true := by rw [bne_iff_ne]; exact HE4.out
  generalize closeE (rs3 (strL s)).2 = E4 at *
  clear HE4 HS3 HS4 HS5 HR2 HF2
  go_wp2_with fail
  refine HC.out.mono ?_
  rintro e w6 ⟨rfl, rfl⟩
  clear HC
  go_wp2
  go_ret2
  exact ⟨rfl, HF5.out⟩

set_option maxRecDepth 100000 in
set_option maxHeartbeats 4000000 in
theorem Decode_n0 (s : ByteArray) (f n : Nat) (B : List UInt8) (w : World) (hs : s.size ≤ 1099511627776) (e1 : (rs1 (strL s)).1 = (f : Int)) (e2 : (rs2 (strL s)).1 = (n : Int)) (e3 : (rs3 (strL s)).1 = B) (e4 : closeE (rs3 (strL s)).2 = 0) (hn : n = 0) :
    Calls Tryd.prog 35 #[.string s] w (Gives w (.tuple #[.pointer none, .int .i64 3])) := by
  obtain ⟨cc, w1, hcv, hf1, hr1⟩ := conv_bytes w s
  have HF1 := Lib.hid hf1
  have HR1 := Lib.hid hr1
  have HE4 := Lib.hid e4
  have HE3 := Lib.hid e3
  clear hf1 hr1 e4 e3
  go_enter Tryd.func35, Tryd.ntmps35
  go_wp2_with fail
  refine (NewReader_any _ _ _ (strL s) _ _ HR1.out hs).mono ?_
  rintro e w2 ⟨g, S, rfl, hr2, hf2, hg2, hS2⟩
  have HR2 := Lib.hid hr2
  have HF2 := Lib.hid (HF1.out.trans hf2)
  have HG2 : Hid (w.heap.size ≤ g) := Nat.le_trans HF1.out.size hg2
  clear hr2 hf2 hg2 hS2 hcv HR1 HF1
  go_wp2_with fail
  refine (rdNumber_any g S _ _ _ 1073741824 _ HR2.out).mono ?_
  rintro e w3 ⟨rfl, hs3⟩
  have hv1 : (rStep 0 (pNumber 1073741824) (strL s, 0, 0)).1 = (f : Int) := e1
  rw [hv1]
  have HS3 : Hid (RrStep w2 g S w3 (rs1 (strL s)).2.1 (rs1 (strL s)).2.2.1 (rs1 (strL s)).2.2.2) := hs3
  clear hs3 hv1 e1
  go_wp2_with fail
  refine (rdNumber_any g S _ _ _ 65536 _ HS3.out.rr).mono ?_
  rintro e w4 ⟨rfl, hs4⟩
  have hv2 : (rStep 0 (pNumber 65536) ((rs1 (strL s)).2.1, (rs1 (strL s)).2.2.1, (rs1 (strL s)).2.2.2)).1 = (n : Int) := e2
  rw [hv2]
  have HS4 : Hid (RrStep w3 g S w4 (rs2 (strL s)).2.1 (rs2 (strL s)).2.2.1 (rs2 (strL s)).2.2.2) := hs4
  clear hs4 hv2 e2
  go_wp2_with fail
  refine (rText_any g S _ _ _ 65536 _ HS4.out.rr).mono ?_
  rintro e w5 ⟨rfl, hs5⟩
  have hv3 : (rStep [] (pText 65536) ((rs2 (strL s)).2.1, (rs2 (strL s)).2.2.1, (rs2 (strL s)).2.2.2)).1 = B := HE3.out
  rw [hv3]
  have HS5 : Hid (RrStep w4 g S w5 (rs3 (strL s)).2.1 (rs3 (strL s)).2.2.1 (rs3 (strL s)).2.2.2) := hs5
  clear hs5 hv3 HE3
  have HF5 : Hid (Fr Nothing w w5) := by
    refine HF2.out.then_ ((HS3.out.fr.trans HS4.out.fr).trans HS5.out.fr) (fun i hi e => ?_)
    have e' : i = g := e
    have := HG2.out
    omega
  have HC := Lib.hid (rClose_any g S _ _ _ _ HS5.out.rr)
  have hce : (if (rs3 (strL s)).2.2.2 = 0 then (if 0 < (rs3 (strL s)).2.1.length then (5 : Int) else 0) else (rs3 (strL s)).2.2.2) = 0 := HE4.out
  rw [hce] at HC
  clear hce HE4 HS3 HS4 HS5 HR2 HF2
  go_wp2_with fail
  refine HC.out.mono ?_
  rintro e w6 ⟨rfl, rfl⟩
  clear HC
  subst hn
  go_wp2_with fail
  refine (New_bad f _ _ (.inr (.inr (.inl (by decide))))).mono ?_
  rintro e w6 ⟨rfl, hf6⟩
  have HF6 : Hid (Fr Nothing w w6) := HF5.out.trans hf6
  clear hf6
  go_wp2
  go_ret2
  exact ⟨rfl, HF6.out⟩

set_option maxRecDepth 100000 in
set_option maxHeartbeats 4000000 in
theorem Decode_len (s : ByteArray) (f n : Nat) (B : List UInt8) (w : World) (hs : s.size ≤ 1099511627776) (h3 : 2 ≤ w.heap.size) (e1 : (rs1 (strL s)).1 = (f : Int)) (e2 : (rs2 (strL s)).1 = (n : Int)) (e3 : (rs3 (strL s)).1 = B) (e4 : closeE (rs3 (strL s)).2 = 0) (hf : f ≤ 1073741824) (h1 : 1 ≤ n) (hn : n ≤ 65536) (hB : B.length ≠ (n + 7) / 8) :
    Calls Tryd.prog 35 #[.string s] w (Gives w (.tuple #[.pointer none, .int .i64 3])) := by
  obtain ⟨cc, w1, hcv, hf1, hr1⟩ := conv_bytes w s
  have HF1 := Lib.hid hf1
  have HR1 := Lib.hid hr1
  have HE4 := Lib.hid e4
  have HE3 := Lib.hid e3
  clear hf1 hr1 e4 e3
  go_enter Tryd.func35, Tryd.ntmps35
  go_wp2_with fail
  refine (NewReader_any _ _ _ (strL s) _ _ HR1.out hs).mono ?_
  rintro e w2 ⟨g, S, rfl, hr2, hf2, hg2, hS2⟩
  have HR2 := Lib.hid hr2
  have HF2 := Lib.hid (HF1.out.trans hf2)
  have HG2 : Hid (w.heap.size ≤ g) := Nat.le_trans HF1.out.size hg2
  clear hr2 hf2 hg2 hS2 hcv HR1 HF1
  go_wp2_with fail
  refine (rdNumber_any g S _ _ _ 1073741824 _ HR2.out).mono ?_
  rintro e w3 ⟨rfl, hs3⟩
  have hv1 : (rStep 0 (pNumber 1073741824) (strL s, 0, 0)).1 = (f : Int) := e1
  rw [hv1]
  have HS3 : Hid (RrStep w2 g S w3 (rs1 (strL s)).2.1 (rs1 (strL s)).2.2.1 (rs1 (strL s)).2.2.2) := hs3
  clear hs3 hv1 e1
  go_wp2_with fail
  refine (rdNumber_any g S _ _ _ 65536 _ HS3.out.rr).mono ?_
  rintro e w4 ⟨rfl, hs4⟩
  have hv2 : (rStep 0 (pNumber 65536) ((rs1 (strL s)).2.1, (rs1 (strL s)).2.2.1, (rs1 (strL s)).2.2.2)).1 = (n : Int) := e2
  rw [hv2]
  have HS4 : Hid (RrStep w3 g S w4 (rs2 (strL s)).2.1 (rs2 (strL s)).2.2.1 (rs2 (strL s)).2.2.2) := hs4
  clear hs4 hv2 e2
  go_wp2_with fail
  refine (rText_any g S _ _ _ 65536 _ HS4.out.rr).mono ?_
  rintro e w5 ⟨rfl, hs5⟩
  have hv3 : (rStep [] (pText 65536) ((rs2 (strL s)).2.1, (rs2 (strL s)).2.2.1, (rs2 (strL s)).2.2.2)).1 = B := HE3.out
  rw [hv3]
  have HS5 : Hid (RrStep w4 g S w5 (rs3 (strL s)).2.1 (rs3 (strL s)).2.2.1 (rs3 (strL s)).2.2.2) := hs5
  clear hs5 hv3 HE3
  have HF5 : Hid (Fr Nothing w w5) := by
    refine HF2.out.then_ ((HS3.out.fr.trans HS4.out.fr).trans HS5.out.fr) (fun i hi e => ?_)
    have e' : i = g := e
    have := HG2.out
    omega
  have HC := Lib.hid (rClose_any g S _ _ _ _ HS5.out.rr)
  have hce : (if (rs3 (strL s)).2.2.2 = 0 then (if 0 < (rs3 (strL s)).2.1.length then (5 : Int) else 0) else (rs3 (strL s)).2.2.2) = 0 := HE4.out
  rw [hce] at HC
  clear hce HE4 HS3 HS4 HS5 HR2 HF2
  go_wp2_with fail
  refine HC.out.mono ?_
  rintro e w6 ⟨rfl, rfl⟩
  clear HC
  go_wp2_with fail
  refine (New_ok f n _ hf h1 hn (Nat.le_trans h3 HF5.out.size)).mono ?_
  rintro e w6 ⟨gm, b, c, rfl, hm, hf6, hg6, hb6⟩
  have HM := Lib.hid hm
  have HF6 : Hid (Fr Nothing w w6) := HF5.out.trans hf6
  have HN6 : Hid (w.heap.size ≤ gm ∧ w.heap.size ≤ b) := ⟨Nat.le_trans HF5.out.size hg6, Nat.le_trans HF5.out.size hb6⟩
  clear hm hf6 hg6 hb6 HF5
  unfold tV
  have hsz : (⟨B.toArray⟩ : ByteArray).size = B.length := by simp [ByteArray.size]
  generalize (⟨B.toArray⟩ : ByteArray) = sB at *
  have hqb : ((B.length : Int) != ((n : Int) + 7) / 8) = true := by rw [bne_iff_ne]; omega
  generalize B.length = q at *
  go_wp2
  go_ret2
  exact ⟨rfl, HF6.out⟩

set_option maxRecDepth 100000 in
set_option maxHeartbeats 4000000 in
theorem Decode_bit (s : ByteArray) (f n : Nat) (B : List UInt8) (w : World) (hs : s.size ≤ 1099511627776) (h3 : 2 ≤ w.heap.size) (e1 : (rs1 (strL s)).1 = (f : Int)) (e2 : (rs2 (strL s)).1 = (n : Int)) (e3 : (rs3 (strL s)).1 = B) (e4 : closeE (rs3 (strL s)).2 = 0) (hf : f ≤ 1073741824) (h1 : 1 ≤ n) (hn : n ≤ 65536) (hB : B.length = (n + 7) / 8) (i1 : Nat) (hi1 : n ≤ i1) (hi2 : i1 < 8 * ((n + 7) / 8)) (hi3 : bitAt B i1 = 1) :
    Calls Tryd.prog 35 #[.string s] w (Gives w (.tuple #[.pointer none, .int .i64 3])) := by
  obtain ⟨cc, w1, hcv, hf1, hr1⟩ := conv_bytes w s
  have HF1 := Lib.hid hf1
  have HR1 := Lib.hid hr1
  have HE4 := Lib.hid e4
  have HE3 := Lib.hid e3
  clear hf1 hr1 e4 e3
  go_enter Tryd.func35, Tryd.ntmps35
  go_wp2_with fail
  refine (NewReader_any _ _ _ (strL s) _ _ HR1.out hs).mono ?_
  rintro e w2 ⟨g, S, rfl, hr2, hf2, hg2, hS2⟩
  have HR2 := Lib.hid hr2
  have HF2 := Lib.hid (HF1.out.trans hf2)
  have HG2 : Hid (w.heap.size ≤ g) := Nat.le_trans HF1.out.size hg2
  clear hr2 hf2 hg2 hS2 hcv HR1 HF1
  go_wp2_with fail
  refine (rdNumber_any g S _ _ _ 1073741824 _ HR2.out).mono ?_
  rintro e w3 ⟨rfl, hs3⟩
  have hv1 : (rStep 0 (pNumber 1073741824) (strL s, 0, 0)).1 = (f : Int) := e1
  rw [hv1]
  have HS3 : Hid (RrStep w2 g S w3 (rs1 (strL s)).2.1 (rs1 (strL s)).2.2.1 (rs1 (strL s)).2.2.2) := hs3
  clear hs3 hv1 e1
  go_wp2_with fail
  refine (rdNumber_any g S _ _ _ 65536 _ HS3.out.rr).mono ?_
  rintro e w4 ⟨rfl, hs4⟩
  have hv2 : (rStep 0 (pNumber 65536) ((rs1 (strL s)).2.1, (rs1 (strL s)).2.2.1, (rs1 (strL s)).2.2.2)).1 = (n : Int) := e2
  rw [hv2]
  have HS4 : Hid (RrStep w3 g S w4 (rs2 (strL s)).2.1 (rs2 (strL s)).2.2.1 (rs2 (strL s)).2.2.2) := hs4
  clear hs4 hv2 e2
  go_wp2_with fail
  refine (rText_any g S _ _ _ 65536 _ HS4.out.rr).mono ?_
  rintro e w5 ⟨rfl, hs5⟩
  have hv3 : (rStep [] (pText 65536) ((rs2 (strL s)).2.1, (rs2 (strL s)).2.2.1, (rs2 (strL s)).2.2.2)).1 = B := HE3.out
  rw [hv3]
  have HS5 : Hid (RrStep w4 g S w5 (rs3 (strL s)).2.1 (rs3 (strL s)).2.2.1 (rs3 (strL s)).2.2.2) := hs5
  clear hs5 hv3 HE3
  have HF5 : Hid (Fr Nothing w w5) := by
    refine HF2.out.then_ ((HS3.out.fr.trans HS4.out.fr).trans HS5.out.fr) (fun i hi e => ?_)
    have e' : i = g := e
    have := HG2.out
    omega
  have HC := Lib.hid (rClose_any g S _ _ _ _ HS5.out.rr)
  have hce : (if (rs3 (strL s)).2.2.2 = 0 then (if 0 < (rs3 (strL s)).2.1.length then (5 : Int) else 0) else (rs3 (strL s)).2.2.2) = 0 := HE4.out
  rw [hce] at HC
  clear hce HE4 HS3 HS4 HS5 HR2 HF2
  go_wp2_with fail
  refine HC.out.mono ?_
  rintro e w6 ⟨rfl, rfl⟩
  clear HC
  go_wp2_with fail
  refine (New_ok f n _ hf h1 hn (Nat.le_trans h3 HF5.out.size)).mono ?_
  rintro e w6 ⟨gm, b, c, rfl, hm, hf6, hg6, hb6⟩
  have HM := Lib.hid hm
  have HF6 : Hid (Fr Nothing w w6) := HF5.out.trans hf6
  have HN6 : Hid (w.heap.size ≤ gm ∧ w.heap.size ≤ b) := ⟨Nat.le_trans HF5.out.size hg6, Nat.le_trans HF5.out.size hb6⟩
  clear hm hf6 hg6 hb6 HF5
  unfold tV
  have hsz : (⟨B.toArray⟩ : ByteArray).size = (n + 7) / 8 := by simp [ByteArray.size, hB]
  generalize hsB : (⟨B.toArray⟩ : ByteArray) = sB at *
  have HSB := Lib.hid hsB
  clear hsB
  generalize hq : (n + 7) / 8 = q at *
  have hq2 : q ≤ 8192 := by omega
  have hqb : ((q : Int) != ((n : Int) + 7) / 8) = false := by simp only [bne_eq_false_iff_eq]; omega
  go_wp2
  go_loopw [42] (fun i wr => ∃ k : Nat, k ≤ 8 * q ∧ i = .int .i64 k ∧ BM wr gm b c f n (bitK B n k) ∧ Fr (One b) w6 wr ∧ k ≤ i1) (fun i _ => 8 * q - (intOf i).toNat)
  case atStart => exact ⟨0, Nat.zero_le _, rfl, by rw [bitK_zero]; exact HM.out, Fr.refl _ _, Nat.zero_le _⟩
  case round =>
    obtain ⟨k, hk, rfl, hM, hF, hki⟩ := hrel
    have KM := Lib.hid hM
    have KF := Lib.hid hF
    clear hM hF HM
    have c1 := KM.out.c1
    have hlt : k < 8 * q := by omega
    have hx : k / 8 < sB.size := by omega
    have hb := bit_test HSB.out k hx
    have hb2 := bitAt_lt B k
    by_cases h0 : bitAt B k = 0
    · rw [h0] at hb
      have HK := Lib.hid (bitK_skip B n k h0)
      have hki2 : k + 1 ≤ i1 := by
        rcases Nat.lt_or_ge k i1 with h | h
        · exact h
        · have : k = i1 := by omega
          subst this
          omega
      clear h0 hb2
      have hb0 : (bits BinOp.and IntKind.u8 ((((sB[k / 8]'hx).toNat : Nat) : Int) / 2 ^ (k % 8)) 1 == 0) = true := by rw [hb]; rfl
      clear hb
      go_wp2
      go_roundw
      case rel => exact ⟨k + 1, by omega, by go_num, by rw [HK.out]; exact KM.out, KF.out, hki2⟩
      case measure => simp [intOf]; omega
    · have h1b : bitAt B k = 1 := by omega
      rw [h1b] at hb
      have hb0 : (bits BinOp.and IntKind.u8 ((((sB[k / 8]'hx).toNat : Nat) : Int) / 2 ^ (k % 8)) 1 == 0) = false := by rw [hb]; rfl
      by_cases hkn : k < n
      · have HK := Lib.hid (bitK_set B n k h1b)
        have hge : decide (n ≤ k) = false := by simpa using hkn
        have hki2 : k + 1 ≤ i1 := by omega
        have fz := KM.out.free k
        have c2 := KM.out.at_ hkn
        have KS : Hid (BM (wr.setCell ⟨b, k, none⟩ (.int .u8 1)) gm b c f n (bitK B n (k + 1))) := by
          simp only [Hid]
          rw [HK.out]
          exact KM.out.set k 1 (by decide)
        have KT : Hid (Fr (One b) w6 (wr.setCell ⟨b, k, none⟩ (.int .u8 1))) := KF.out.trans fr_set
        clear h0 h1b hb2 hb HK KM KF
        go_wp2
        go_roundw
        case rel => exact ⟨k + 1, by omega, by go_num, KS.out, KT.out, hki2⟩
        case measure => simp [intOf]; omega
      · have hge : decide (n ≤ k) = true := by simp; omega
        have HFF : Hid (Fr Nothing w wr) := HF6.out.then_ KF.out (fun i hi e => by have e' : i = b := e; have := HN6.out.2; omega)
        clear h0 h1b hb2 hb
        go_wp2
        go_ret2
        exact ⟨rfl, HFF.out⟩
end Go.Proofs.YtejajafbopabmaaDoor
