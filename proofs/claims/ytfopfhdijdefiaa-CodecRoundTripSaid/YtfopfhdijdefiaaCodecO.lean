/- The walk of the law CodecRoundTrip. -/
import Derived.Test.YtfopfhdijdefiaaCodecM
namespace Go.Proofs.Ytfopfhdijdefiaa
open Go.RowKit

set_option maxRecDepth 100000 in
set_option maxHeartbeats 4000000 in
theorem CodecRoundTrip_any (A : Option Addr) (n c : Nat) (l : List VV) (w : World) (S : Nat → Prop) (hr : Rd w S 5 A n (vcells l)) (hok : ∀ v ∈ l, v.ok) (hn : n ≤ 9223372036854775807) :
    Calls Try.prog 8 #[.slice A n c] w (TrueNew w) := by
  have HSM := Lib.hid (mostL_mem _ (shortL_mem l hok))
  have hsl := shortL_len l
  have HSO := Lib.hid (fun v hv => (shortL_mem l hok v hv).1)
  have HC := Lib.hid (short_any A n c l w S hr hok hn)
  clear hr hok
  go_enter Try.func8, Try.ntmps8
  go_wp2_with fail
  refine HC.out.mono ?_
  clear HC
  rintro e w0 ⟨v0, rfl, hg0⟩
  obtain ⟨A0, n0, c0, rfl, H0, _⟩ := own_slice hg0.own
  have HF0 := Lib.hid hg0.fr0
  have HR0 := Lib.hid (GrewV.rd hg0 H0.out)
  clear hg0
  go_wp2_with fail
  refine (most_any A0 n0 c0 (shortL l) w0 _ HR0.out HSO.out (by rw [H0.out]; omega)).mono ?_
  rintro e w1 ⟨v1, rfl, hg1⟩
  have hsl2 : (mostL (shortL l)).length ≤ 40 := by simp only [mostL, List.length_map]; exact hsl
  obtain ⟨A1, n1, c1, rfl, H1, _⟩ := own_slice hg1.own
  have hn1 : n1 ≤ 40 := by rw [H1.out]; exact hsl2
  have HR1 := Lib.hid (GrewV.rd hg1 H1.out)
  have HF1 : Hid (Fr Nothing w w1) := HF0.out.trans hg1.fr0
  have HN1 : Hid (∀ k, Rows1 (.slice A1 n1 c1) k → k < w1.heap.size) := fun k hk => (hg1.own.lt k hk).2
  clear hg1 HR0 H0 HF0
  generalize mostL (shortL l) = L at HSM H1 HR1 hsl2
  clear HSO hsl
  go_wp2_with fail
  refine (NewWriter_any _).mono ?_
  rintro e w2 ⟨rfl, h2, hf2⟩
  have HW2 := Lib.hid h2
  have HF2 := Lib.hid hf2
  clear h2 hf2
  go_wp2_with fail
  refine (write_any w1.heap.size (.slice none 0 0) [] 0 A1 n1 c1 L w2 _ HW2.out (HR1.out.fr0 HF2.out) (fun k hk h => by
    have := HN1.out k hk
    rcases h with h | h
    · omega
    · simp [Value.ownBlock] at h) (fun v hv => (HSM.out v hv).1) (fun v hv => by have := (HSM.out v hv).2; omega) (by omega) (by simp)).mono ?_
  rintro e w3 ⟨rfl, v3, h3⟩
  have HS3 := Lib.hid h3
  have HF3 : Hid (Fr Nothing w w3) := (HF1.out.trans HF2.out).then_ h3.fr (fun i hi h => by
    have := HF1.out.size
    rcases h with h | h
    · omega
    · simp [Value.ownBlock] at h)
  have HR3 : Hid (Rd w3 (Rows1 (.slice A1 n1 c1)) 5 A1 n1 (vcells L)) := (HR1.out.fr0 HF2.out).fr h3.fr (fun k hk h => by
    have := HN1.out k hk
    rcases h with h | h
    · omega
    · simp [Value.ownBlock] at h)
  have hsz3 : w1.heap.size ≤ w3.heap.size := Nat.le_trans HF2.out.size h3.fr.size
  have HWG := Lib.hid (writeL_good L [] (fun v hv => (HSM.out v hv).2.1))
  have hlb : (writeL ([], 0) L).1.length ≤ 8400 := by
    have := writeK_length ([], 0) L 200 (fun v hv => (HSM.out v hv).2.1) L.length (Nat.le_refl _)
    simp only [writeK, List.take_length, List.length_nil] at this
    have h6 : L.length * (10 + 200) ≤ 40 * 210 := Nat.mul_le_mul_right _ hsl2
    omega
  clear h3 HR1
  go_wp2_with fail
  refine (wBytes_any _ _ _ _ _ HS3.out.wr (by omega)).mono ?_
  rintro e w4 h4
  generalize writeL ([], 0) L = st at HS3 HWG hlb h4
  obtain ⟨B, f⟩ := st
  simp only at hlb h4 HWG
  by_cases hf : f = 0
  · subst hf
    obtain ⟨v4, rfl, hg4⟩ := h4.2 rfl
    obtain ⟨hpos, hB⟩ := HWG.out rfl
    obtain ⟨A4, n4, c4, rfl, H4, H4c⟩ := own_slice hg4.own
    have HG4 := Lib.hid hg4
    have HB : Hid (B = L.flatMap encV) := by
      simp only [Prod.mk.injEq, and_true, List.nil_append] at hB
      exact hB
    have HGV : Hid (∀ v ∈ L, GoodV v) := fun v hv => ⟨(HSM.out v hv).1, hpos v hv, (HSM.out v hv).2.1, (HSM.out v hv).2.2⟩
    clear h4 hg4 HWG hpos hB
    go_wp2_with fail
    refine (NewReader_any A4 n4 c4 B _ _ (OwnB.rd HG4.out.own H4.out) (by rw [H4.out]; omega)).mono ?_
    rintro e w5 ⟨g, SR, rfl, hrr, hf5, hg, hSR⟩
    have HRR := Lib.hid hrr
    have HF5 := Lib.hid hf5
    have HSR := Lib.hid hSR
    clear hrr hf5 hSR
    have hs4 := HG4.out.fr0.size
    go_wp2_with fail
    refine (read_any g SR (B, 0, 0) A1 n1 c1 L w5 _ HRR.out ((HR3.out.fr0 HG4.out.fr0).fr0 HF5.out) (fun k hk e => by have := HN1.out k hk; unfold Only at e; omega) (fun k hk => (HSR.out k hk).2) (fun v hv => (HSM.out v hv).1) (by omega)).mono ?_
    rintro e w6 ⟨v6, rfl, hs6⟩
    obtain ⟨R, hR1, hR2⟩ := readL_enc L [] 0 HGV.out
    rw [List.append_nil, ← HB.out] at hR1
    rw [hR1] at hs6
    obtain ⟨A6, n6, c6, rfl, H6, _⟩ := own_slice hs6.own
    have HS6 := Lib.hid hs6
    have HM := Lib.hid hR2
    have HRl : Hid (R.length = L.length) := by
      have := readL_length (B, 0, 0) L
      rw [hR1] at this
      exact this
    have HR6 : Hid (Rd w6 (Rows1 (.slice A6 n6 c6)) 5 A6 n6 (vcells R)) := by
      have h5 := hs6.own
      rw [← H6.out] at h5
      exact Rd.of_own h5
    have HL6 : Hid (Rd w6 (Rows1 (.slice A1 n1 c1)) 5 A1 n1 (vcells L)) := ((HR3.out.fr0 HG4.out.fr0).fr0 HF5.out).fr hs6.fr (fun k hk e => by have := HN1.out k hk; unfold Only at e; omega)
    have HFw : Hid (Fr Nothing w w6) := ((HF3.out.trans HG4.out.fr0).trans HF5.out).then_ hs6.fr (fun i hi e => by have := HF3.out.size; unfold Only at e; omega)
    have HRr := Lib.hid hs6.rr
    have hn61 : n6 = n1 := by rw [H6.out, H1.out]; exact HRl.out
    have HN61 := Lib.hid hn61
    have HH1 := Lib.hid H1.out
    clear hs6 hR1 hR2 HS6 HR3 HGV hn61
    go_wp2
    go_loopw [8] (fun i wr => ∃ k : Nat, k ≤ n1 ∧ i = .int .i64 k ∧ Fr Nothing w6 wr) (fun i _ => n1 - (intOf i).toNat)
    case atStart => exact ⟨0, Nat.zero_le _, rfl, Fr.refl _ _⟩
    case round =>
      obtain ⟨k, hk, rfl, hfr⟩ := hrel
      have HFr := Lib.hid hfr
      clear hfr
      by_cases hlt : k < n1
      · obtain ⟨v, hv⟩ : ∃ v, L[k]? = some v := ⟨_, List.getElem?_eq_getElem (by rw [← HH1.out]; exact hlt)⟩
        obtain ⟨x, hx, hmx⟩ := HM.out k v hv
        have hok := (HSM.out v (List.mem_of_getElem? hv)).1
        obtain ⟨ad, rfl, _, hc⟩ := (HL6.out.fr0 HFr.out).vat hv
        obtain ⟨ax, rfl, _, hcx⟩ := (HR6.out.fr0 HFr.out).vat hx
        have c0 : wr.cell? (ad.add (k * 5)) = some (.int .u8 v.kind) := hc 0 _ rfl
        have c1 : wr.cell? ⟨(ad.add (k * 5)).block, (ad.add (k * 5)).off + 1, none⟩ = some (.int .i64 v.n) := hc 1 _ rfl
        have c2 : wr.cell? ⟨(ad.add (k * 5)).block, (ad.add (k * 5)).off + 2, none⟩ = some (.bool v.is) := hc 2 _ rfl
        have c3 : wr.cell? ⟨(ad.add (k * 5)).block, (ad.add (k * 5)).off + 3, none⟩ = some (.string v.s) := hc 3 _ rfl
        have x0 : wr.cell? (ax.add (k * 5)) = some (.int .u8 v.kind) := by have := hcx 0 _ rfl; rw [hmx.kind] at this; exact this
        have x1 : wr.cell? ⟨(ax.add (k * 5)).block, (ax.add (k * 5)).off + 1, none⟩ = some (.int .i64 x.n) := hcx 1 _ rfl
        have x2 : wr.cell? ⟨(ax.add (k * 5)).block, (ax.add (k * 5)).off + 2, none⟩ = some (.bool x.is) := hcx 2 _ rfl
        have x3 : wr.cell? ⟨(ax.add (k * 5)).block, (ax.add (k * 5)).off + 3, none⟩ = some (.string x.s) := hcx 3 _ rfl
        have hki : (k : Int) < (n1 : Int) := by omega
        have hki6 : (k : Int) < (n6 : Int) := by rw [HN61.out]; omega
        have hk0 : (0 : Int) ≤ (k : Int) := by omega
        have hkind := hok.kind
        clear hc hcx hv hx hok
        have hcase : v.kind % 4 = 0 ∨ v.kind % 4 = 1 ∨ v.kind % 4 = 2 ∨ v.kind % 4 = 3 := by omega
        have HMX := Lib.hid hmx
        clear hmx
        rcases hcase with hm | hm | hm | hm
        · have t0 : decide ((v.kind : Int) % 4 ≤ 1) = true := by simp; omega
          have t2 : ((v.kind : Int) % 4 == 2) = false := beq_eq_false_iff_ne.2 (by omega)
          have t3 : ((v.kind : Int) % 4 == 3) = false := beq_eq_false_iff_ne.2 (by omega)
          rw [HMX.out.n (by omega)] at x1
          clear hm x2 x3 c2 c3
          go_wp2_with fail
          refine wp_region_quiet_lit (by kernel_rfl) (by kernel_rfl) ?_
          simp only [List.append_eq, List.cons_append, List.nil_append]
          repeat (go_big_quiet_step (fail))
          refine wpQuiet_nil ?_
          rintro _ ⟨nq, rfl⟩
          go_wp2
          go_roundw
          case rel => exact ⟨k + 1, by omega, by go_num, HFr.out.drewN nq⟩
          case measure => simp [intOf]; omega
        · have t0 : decide ((v.kind : Int) % 4 ≤ 1) = true := by simp; omega
          have t2 : ((v.kind : Int) % 4 == 2) = false := beq_eq_false_iff_ne.2 (by omega)
          have t3 : ((v.kind : Int) % 4 == 3) = false := beq_eq_false_iff_ne.2 (by omega)
          rw [HMX.out.n (by omega)] at x1
          clear hm x2 x3 c2 c3
          go_wp2_with fail
          refine wp_region_quiet_lit (by kernel_rfl) (by kernel_rfl) ?_
          simp only [List.append_eq, List.cons_append, List.nil_append]
          repeat (go_big_quiet_step (fail))
          refine wpQuiet_nil ?_
          rintro _ ⟨nq, rfl⟩
          go_wp2
          go_roundw
          case rel => exact ⟨k + 1, by omega, by go_num, HFr.out.drewN nq⟩
          case measure => simp [intOf]; omega
        · have t0 : decide ((v.kind : Int) % 4 ≤ 1) = false := by simp; omega
          have t2 : ((v.kind : Int) % 4 == 2) = true := beq_iff_eq.2 (by omega)
          have t3 : ((v.kind : Int) % 4 == 3) = false := beq_eq_false_iff_ne.2 (by omega)
          rw [HMX.out.is (by omega)] at x2
          clear hm x1 x3 c1 c3
          go_wp2_with fail
          refine wp_region_quiet_lit (by kernel_rfl) (by kernel_rfl) ?_
          simp only [List.append_eq, List.cons_append, List.nil_append]
          repeat (go_big_quiet_step (fail))
          refine wpQuiet_nil ?_
          rintro _ ⟨nq, rfl⟩
          go_wp2
          go_roundw
          case rel => exact ⟨k + 1, by omega, by go_num, HFr.out.drewN nq⟩
          case measure => simp [intOf]; omega
        · have t0 : decide ((v.kind : Int) % 4 ≤ 1) = false := by simp; omega
          have t2 : ((v.kind : Int) % 4 == 2) = false := beq_eq_false_iff_ne.2 (by omega)
          have t3 : ((v.kind : Int) % 4 == 3) = true := beq_iff_eq.2 (by omega)
          rw [HMX.out.s (by omega)] at x3
          clear hm x1 x2 c1 c2
          go_wp2_with fail
          refine wp_region_quiet_lit (by kernel_rfl) (by kernel_rfl) ?_
          simp only [List.append_eq, List.cons_append, List.nil_append]
          repeat (go_big_quiet_step (fail))
          refine wpQuiet_nil ?_
          rintro _ ⟨nq, rfl⟩
          go_wp2
          go_roundw
          case rel => exact ⟨k + 1, by omega, by go_num, HFr.out.drewN nq⟩
          case measure => simp [intOf]; omega
      · go_wp2_with fail
        refine (known_any _).mono ?_
        rintro e w8 ⟨rfl, hf8⟩
        have HF8 := Lib.hid hf8
        clear hf8
        go_wp2_with fail
        refine (rClose_any g SR [] _ 0 _ ((HRr.out.keep0 HFr.out).keep0 HF8.out)).mono ?_
        rintro e w9 ⟨rfl, rfl⟩
        go_wp2_with fail
        refine (rRest_any g SR [] _ 0 _ ((HRr.out.keep0 HFr.out).keep0 HF8.out)).mono ?_
        rintro e w9 ⟨rfl, rfl⟩
        go_wp2
        go_ret
        exact ⟨rfl, (HFw.out.trans HFr.out).trans HF8.out⟩
  · obtain ⟨rfl, hg4⟩ := h4.1 hf
    have HG4 := Lib.hid hg4
    have hfb : (f != 0) = true := by rw [bne_iff_ne]; exact hf
    clear h4 hg4 HWG hf
    go_wp2_with fail
    refine (known_any _).mono ?_
    rintro e w8 ⟨rfl, hf8⟩
    have HF8 := Lib.hid hf8
    clear hf8
    go_wp2
    go_ret
    exact ⟨rfl, (HF3.out.trans HG4.out).trans HF8.out⟩
end Go.Proofs.Ytfopfhdijdefiaa
