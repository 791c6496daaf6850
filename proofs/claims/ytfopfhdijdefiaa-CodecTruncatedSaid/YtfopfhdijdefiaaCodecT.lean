/- The walk of the law CodecTruncated. -/
import Derived.Test.YtfopfhdijdefiaaCodecM
namespace Go.Proofs.Ytfopfhdijdefiaa
open Go.RowKit

set_option maxRecDepth 100000 in
set_option maxHeartbeats 2000000 in
theorem CodecTruncated_any (A : Option Addr) (n c : Nat) (cut : Nat) (l : List VV) (w : World) (S : Nat → Prop) (hr : Rd w S 5 A n (vcells l)) (hok : ∀ v ∈ l, v.ok) (hn : n ≤ 9223372036854775807) (hcut : cut < 65536) :
    Calls Try.prog 9 #[.slice A n c, .int .u16 cut] w (TrueNew w) := by
  have HSM := Lib.hid (mostL_mem _ (shortL_mem l hok))
  have hsl := shortL_len l
  have HSO := Lib.hid (fun v hv => (shortL_mem l hok v hv).1)
  have HC := Lib.hid (short_any A n c l w S hr hok hn)
  clear hr hok
  go_enter Try.func9, Try.ntmps9
  go_wp2_with fail
  refine HC.out.mono ?_
  clear HC
  rintro e w0 ⟨v0, rfl, hg0⟩
  obtain ⟨A0, n0, c0, rfl, H0, _⟩ := own_slice hg0.own
  have HF0 := Lib.hid hg0.fr0
  have HR0 := Lib.hid (GrewV.rd hg0 H0.out)
  clear hg0
  go_wp2_with fail
  refine (most_any A0 n0 c0 (shortL l) w0 _ HR0.out HSO.out (by rw [H0.out]; omega)).mono ?_
  rintro e w1 ⟨v1, rfl, hg1⟩
  have hsl2 : (mostL (shortL l)).length ≤ 40 := by simp only [mostL, List.length_map]; exact hsl
  obtain ⟨A1, n1, c1, rfl, H1, _⟩ := own_slice hg1.own
  have hn1 : n1 ≤ 40 := by rw [H1.out]; exact hsl2
  have HR1 := Lib.hid (GrewV.rd hg1 H1.out)
  have HF1 : Hid (Fr Nothing w w1) := HF0.out.trans hg1.fr0
  have HN1 : Hid (∀ k, Rows1 (.slice A1 n1 c1) k → k < w1.heap.size) := fun k hk => (hg1.own.lt k hk).2
  clear hg1 HR0 H0 HF0
  generalize mostL (shortL l) = L at HSM H1 HR1 hsl2
  clear HSO hsl
  go_wp2_with fail
  refine (NewWriter_any _).mono ?_
  rintro e w2 ⟨rfl, h2, hf2⟩
  have HW2 := Lib.hid h2
  have HF2 := Lib.hid hf2
  clear h2 hf2
  go_wp2_with fail
  refine (write_any w1.heap.size (.slice none 0 0) [] 0 A1 n1 c1 L w2 _ HW2.out (HR1.out.fr0 HF2.out) (fun k hk h => by
    have := HN1.out k hk
    rcases h with h | h
    · omega
    · simp [Value.ownBlock] at h) (fun v hv => (HSM.out v hv).1) (fun v hv => by have := (HSM.out v hv).2; omega) (by omega) (by simp)).mono ?_
  rintro e w3 ⟨rfl, v3, h3⟩
  have HS3 := Lib.hid h3
  have HF3 : Hid (Fr Nothing w w3) := (HF1.out.trans HF2.out).then_ h3.fr (fun i hi h => by
    have := HF1.out.size
    rcases h with h | h
    · omega
    · simp [Value.ownBlock] at h)
  have HR3 : Hid (Rd w3 (Rows1 (.slice A1 n1 c1)) 5 A1 n1 (vcells L)) := (HR1.out.fr0 HF2.out).fr h3.fr (fun k hk h => by
    have := HN1.out k hk
    rcases h with h | h
    · omega
    · simp [Value.ownBlock] at h)
  have hsz3 : w1.heap.size ≤ w3.heap.size := Nat.le_trans HF2.out.size h3.fr.size
  have HWG := Lib.hid (writeL_good L [] (fun v hv => (HSM.out v hv).2.1))
  have hlb : (writeL ([], 0) L).1.length ≤ 8400 := by
    have := writeK_length ([], 0) L 200 (fun v hv => (HSM.out v hv).2.1) L.length (Nat.le_refl _)
    simp only [writeK, List.take_length, List.length_nil] at this
    have h6 : L.length * (10 + 200) ≤ 40 * 210 := Nat.mul_le_mul_right _ hsl2
    omega
  clear h3 HR1
  go_wp2_with fail
  refine (wBytes_any _ _ _ _ _ HS3.out.wr (by omega)).mono ?_
  rintro e w4 h4
  generalize writeL ([], 0) L = st at HS3 HWG hlb h4
  obtain ⟨B, f⟩ := st
  simp only at hlb h4 HWG
  by_cases hf : f = 0
  · subst hf
    obtain ⟨v4, rfl, hg4⟩ := h4.2 rfl
    obtain ⟨hpos, hB⟩ := HWG.out rfl
    obtain ⟨A4, n4, c4, rfl, H4, H4c⟩ := own_slice hg4.own
    have HG4 := Lib.hid hg4
    have HB : Hid (B = L.flatMap encV) := by
      simp only [Prod.mk.injEq, and_true, List.nil_append] at hB
      exact hB
    have HGV : Hid (∀ v ∈ L, GoodV v) := fun v hv => ⟨(HSM.out v hv).1, hpos v hv, (HSM.out v hv).2.1, (HSM.out v hv).2.2⟩
    clear h4 hg4 HWG hpos hB
    by_cases hz : n4 = 0
    · have hzb : ((n4 : Int) == 0) = true := beq_iff_eq.2 (by omega)
      clear hz
      go_wp2_with fail
      refine (known_any _).mono ?_
      rintro e w8 ⟨rfl, hf8⟩
      have HF8 := Lib.hid hf8
      clear hf8
      go_wp2
      go_ret
      exact ⟨rfl, (HF3.out.trans HG4.out.fr0).trans HF8.out⟩
    · have hzb : ((n4 : Int) == 0) = false := beq_eq_false_iff_ne.2 (by omega)
      have hz2 : 0 < n4 := by omega
      have h4c := H4c.out
      have hnl : n4 ≤ 8400 := by rw [H4.out]; exact hlb
      have hk : cut % n4 < n4 := Nat.mod_lt _ hz2
      have hmod : (cut : Int) % (n4 : Int) = ((cut % n4 : Nat) : Int) := by omega
      have HT : Hid (Rd w4 (Rows1 (.slice A4 n4 c4)) 1 A4 (cut % n4) ((B.take (cut % n4)).map bv)) := by
        have := (OwnB.rd HG4.out.own H4.out).take (k := cut % n4) (by omega)
        rw [Nat.mul_one, ← List.map_take] at this
        exact this
      have HRC : Hid ((readL (B.take (cut % n4), 0, 0) L).2.2.2 = 28) := by
        have := readL_cut L (cut % n4) 0 HGV.out (by rw [← HB.out, ← H4.out]; exact hk)
        rw [← HB.out] at this
        exact this
      generalize cut % n4 = kk at hk hmod HT HRC
      generalize B.take kk = B' at HT HRC
      clear hz HB
      go_wp2_with fail
      refine (NewReader_any A4 kk c4 B' _ _ HT.out (by omega)).mono ?_
      rintro e w5 ⟨g, SR, rfl, hrr, hf5, hg, hSR⟩
      have HRR := Lib.hid hrr
      have HF5 := Lib.hid hf5
      have HSR := Lib.hid hSR
      clear hrr hf5 hSR
      have hs4 := HG4.out.fr0.size
      go_wp2_with fail
      refine (read_any g SR (B', 0, 0) A1 n1 c1 L w5 _ HRR.out ((HR3.out.fr0 HG4.out.fr0).fr0 HF5.out) (fun k hk e => by have := HN1.out k hk; unfold Only at e; omega) (fun k hk => (HSR.out k hk).2) (fun v hv => (HSM.out v hv).1) (by omega)).mono ?_
      rintro e w6 ⟨v6, rfl, hs6⟩
      have HS6 := Lib.hid hs6
      clear hs6
      generalize readL (B', 0, 0) L = r at HS6 HRC
      obtain ⟨R, l', p', f'⟩ := r
      obtain rfl : f' = 28 := HRC.out
      have HFw : Hid (Fr Nothing w w6) := ((HF3.out.trans HG4.out.fr0).trans HF5.out).then_ HS6.out.fr (fun i hi e => by have := HF3.out.size; unfold Only at e; omega)
      go_wp2_with fail
      refine (rFailed_any g SR l' p' 28 _ HS6.out.rr).mono ?_
      rintro e w7 ⟨rfl, hf7⟩
      have HF7 := Lib.hid hf7
      clear hf7
      go_wp2_with fail
      refine (known_any _).mono ?_
      rintro e w8 ⟨rfl, hf8⟩
      have HF8 := Lib.hid hf8
      clear hf8
      go_wp2_with fail
      refine (rClose_any g SR l' p' 28 _ ((HS6.out.rr.keep0 HF7.out).keep0 HF8.out)).mono ?_
      rintro e w9 ⟨rfl, rfl⟩
      go_wp2
      go_ret
      exact ⟨rfl, (HFw.out.trans HF7.out).trans HF8.out⟩
  · obtain ⟨rfl, hg4⟩ := h4.1 hf
    have HG4 := Lib.hid hg4
    have hfb : (f != 0) = true := by rw [bne_iff_ne]; exact hf
    clear h4 hg4 HWG hf
    go_wp2_with fail
    refine (known_any _).mono ?_
    rintro e w8 ⟨rfl, hf8⟩
    have HF8 := Lib.hid hf8
    clear hf8
    go_wp2
    go_ret
    exact ⟨rfl, (HF3.out.trans HG4.out).trans HF8.out⟩

theorem cast_u16 {f : Nat} {v : Value} {w : World} {R : Ending → World → Prop} (h : ∀ cut : Nat, cut < 65536 → Calls Try.prog f #[v, .int .u16 cut] w R) (a : Int) (h0 : 0 ≤ a) (h1 : a ≤ 65535) : Calls Try.prog f #[v, .int .u16 a] w R := by
  obtain ⟨x, rfl⟩ := Int.eq_ofNat_of_zero_le h0
  exact h x (by omega)
end Go.Proofs.Ytfopfhdijdefiaa
