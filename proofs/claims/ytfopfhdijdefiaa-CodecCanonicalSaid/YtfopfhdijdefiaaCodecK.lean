/- The walk of the law CodecCanonical. -/
import Derived.Test.YtfopfhdijdefiaaReadP
import Derived.Test.YtfopfhdijdefiaaCodecX
import Derived.Deep.RegionWith
import Derived.Deep.DeepCutAuto
namespace Go.Proofs.Ytfopfhdijdefiaa
open Go.RowKit

set_option maxRecDepth 100000 in
set_option maxHeartbeats 2000000 in
theorem CodecCanonical_any (A B : Option Addr) (n c m d : Nat) (b : List UInt8) (l : List VV) (w : World) (S : Nat → Prop) (hb : Rd w S 1 A n (b.map bv)) (hr : Rd w S 5 B m (vcells l)) (hok : ∀ v ∈ l, v.ok)
    (hn : n ≤ 9223372036854775807) (hnc : n ≤ c) (hm : m ≤ 9223372036854775807) :
    Calls Try.prog 7 #[.slice A n c, .slice B m d] w (TrueNew w) := by
  have hmin1 : min (n : Int) 1000 = ((min n 1000 : Nat) : Int) := min_cast n 1000
  have HA := Lib.hid (hb.upto 1000)
  have h1 : min n 1000 ≤ c := by omega
  have h3 : min n 1000 ≤ 1000 := by omega
  generalize min n 1000 = n' at hmin1 HA h1 h3
  have hsm := shortL_mem l hok
  have hsl := shortL_len l
  have HSM := Lib.hid hsm
  have HC := Lib.hid (short_any B m d l w.drew S hr hok hm)
  clear hr hok hb hsm
  generalize b.take 1000 = b' at HA
  go_enter Try.func7, Try.ntmps7
  go_upto_region 1 with fail
  go_cut [0, 1] (fun s0 s1 wx => ∃ A1 n1 c1, s0 = .slice A n' c ∧ s1 = .slice A1 n1 c1 ∧ Hid (n1 = (shortL l).length) ∧ GrewV w (.slice none 0 0) wx (.slice A1 n1 c1) (shortL l))
  case first =>
    go_region_with (go_at_call 15; refine HC.out.mono ?_; rintro e w1 ⟨v1, rfl, hg1⟩; obtain ⟨A1, n1, c1, rfl, H1, _⟩ := own_slice hg1.own; have HG1 := Lib.hid (hg1.ahead (w := w) (Fr.refl _ _).drew); clear hg1)
    all_goals
      go_wp2_with fail
      go_meet
      exact ⟨_, _, _, rfl, rfl, H1, HG1.out⟩
  case rest =>
    obtain ⟨A1, n1, c1, rfl, rfl, H1, hg1⟩ := hcut
    have HR1 := Lib.hid (GrewV.rd hg1 H1.out)
    have hn1 : n1 ≤ 40 := by rw [H1.out]; exact hsl
    have HN1 : Hid (∀ k, Rows1 (.slice A1 n1 c1) k → k < wc.heap.size) := fun k hk => (hg1.own.lt k hk).2
    have HF1 := Lib.hid hg1.fr0
    clear hg1 HC
    generalize shortL l = L at HSM hsl H1 HR1
    go_wp2_with fail
    refine (NewReader_any A n' c b' _ S (HA.out.fr0 HF1.out) (by omega)).mono ?_
    rintro e w2 ⟨g, SR, rfl, hrr, hf2, hg, hSR⟩
    have HRR := Lib.hid hrr
    have HF2 := Lib.hid hf2
    have HSR := Lib.hid hSR
    clear hrr hf2 hSR
    go_wp2_with fail
    refine (read_any g SR (b', 0, 0) A1 n1 c1 L w2 _ HRR.out (HR1.out.fr0 HF2.out) (fun k hk e => by have := HN1.out k hk; unfold Only at e; omega) (fun k hk => (HSR.out k hk).2) (fun v hv => (HSM.out v hv).1) (by omega)).mono ?_
    rintro e w3 ⟨v3, rfl, hs3⟩
    obtain ⟨A3, n3, c3, rfl, H3, _⟩ := own_slice hs3.own
    have HS3 := Lib.hid hs3
    clear hs3
    have hbl : b'.length ≤ 1000 := by have := HA.out.1; simp at this; omega
    have HRO := Lib.hid (readL_ok 1000 (by omega) L (b', 0, 0) (fun v hv => (HSM.out v hv).1) hbl)
    have HRL := Lib.hid (readL_writeL L b' 0 [])
    have hlen3 : n3 ≤ 40 := by rw [H3.out, readL_length]; exact hsl
    generalize readL (b', 0, 0) L = r at HS3 H3 HRO HRL
    obtain ⟨R, l', p', f'⟩ := r
    have hgw : g < w2.heap.size := HRR.out.lt
    have HFw : Hid (Fr Nothing w w3) := (HF1.out.trans HF2.out).then_ HS3.out.fr (fun i hi e => by have := HF1.out.size; unfold Only at e; omega)
    go_wp2_with fail
    refine (rClose_any g SR l' p' f' _ HS3.out.rr).mono ?_
    rintro e w4 ⟨rfl, rfl⟩
    by_cases hgood : f' = 0 ∧ l' = []
    · obtain ⟨rfl, rfl⟩ := hgood
      obtain ⟨kk, hk1, hk2, hk3⟩ := HRL.out rfl
      have hkb : writeL ([], 0) R = (b', 0) := by
        simp only [Prod.mk.injEq] at hk2
        have h5 : b'.length ≤ kk := by
          have := congrArg List.length hk2.1
          simp at this
          omega
        rw [List.take_of_length_le h5, List.nil_append] at hk3
        exact hk3
      have HKB := Lib.hid hkb
      clear hk1 hk2 hk3 hkb HRL
      have HR3 := Lib.hid (show Rd w3 (Rows1 (.slice A3 n3 c3)) 5 A3 n3 (vcells R) from by have := HS3.out.own; rw [← H3.out] at this; exact Rd.of_own this)
      have HN3 : Hid (∀ k, Rows1 (.slice A3 n3 c3) k → k < w3.heap.size) := fun k hk => (HS3.out.own.lt k hk).2
      clear HS3
      simp only [if_true, List.length_nil, Nat.lt_irrefl, if_false]
      go_wp2_with fail
      refine (NewWriter_any _).mono ?_
      rintro e w5 ⟨rfl, h5, hf5⟩
      have HW5 := Lib.hid h5
      have HF5 := Lib.hid hf5
      clear h5 hf5
      go_wp2_with fail
      refine (write_any w3.heap.size (.slice none 0 0) [] 0 A3 n3 c3 R w5 _ HW5.out (HR3.out.fr0 HF5.out) (fun k hk h => by
        have := HN3.out k hk
        rcases h with h | h
        · omega
        · simp [Value.ownBlock] at h) (fun v hv => (HRO.out v hv).1) (fun v hv => by have := (HRO.out v hv).2; omega) (by omega) (by simp)).mono ?_
      rintro e w6 ⟨rfl, v6, h6⟩
      rw [HKB.out] at h6
      have HS6 := Lib.hid h6
      have HF6 : Hid (Fr Nothing w w6) := ((HFw.out.trans HF5.out).then_ h6.fr (fun i hi h => by
        have := HFw.out.size
        rcases h with h | h
        · omega
        · simp [Value.ownBlock] at h))
      clear h6
      go_wp2_with fail
      refine (wBytes_any _ _ _ _ _ HS6.out.wr (by simp only; omega)).mono ?_
      rintro e w7 h7
      obtain ⟨v7, rfl, hg7⟩ := h7.2 rfl
      obtain ⟨A7, n7, c7, rfl, H7, _⟩ := own_slice hg7.own
      have HG7 := Lib.hid hg7
      clear h7 hg7
      go_wp2_with fail
      refine (known_any _).mono ?_
      rintro e w8 ⟨rfl, hf8⟩
      have HF8 := Lib.hid hf8
      have hcv1 := run_strT w8 _ A7 n7 c7 _ ((OwnB.rd HG7.out.own H7.out).fr0 hf8)
      have hcv2 := run_strT w8 _ A n' c _ (((HA.out.fr0 HF6.out).fr0 HG7.out.fr0).fr0 hf8)
      clear hf8
      go_wp2
      go_ret
      exact ⟨rfl, (HF6.out.trans HG7.out.fr0).trans HF8.out⟩
    · have hcc : ((if f' = 0 then (if 0 < l'.length then (5 : Int) else 0) else f') != 0) = true := by
        rw [bne_iff_ne]
        split
        · rename_i h5
          have : l' ≠ [] := fun h6 => hgood ⟨h5, h6⟩
          have := List.length_pos_iff.2 this
          rw [if_pos this]
          omega
        · assumption
      generalize (if f' = 0 then (if 0 < l'.length then (5 : Int) else 0) else f') = cc at hcc ⊢
      clear HRL HRO
      go_wp2_with fail
      refine (known_any _).mono ?_
      rintro e w8 ⟨rfl, hf8⟩
      have HF8 := Lib.hid hf8
      clear hf8
      go_wp2
      go_ret
      exact ⟨rfl, HFw.out.trans HF8.out⟩
end Go.Proofs.Ytfopfhdijdefiaa
