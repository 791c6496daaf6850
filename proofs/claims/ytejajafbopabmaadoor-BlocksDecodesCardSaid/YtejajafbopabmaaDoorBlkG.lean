/- blocks.Decode. -/
import Derived.Test.YtejajafbopabmaaDoorBlkE
import Derived.Test.YtejajafbopabmaaDoorReadB
import Derived.Lib.ConvBytes
import Derived.Laws.BitsAllLaws
namespace Go.Proofs.YtejajafbopabmaaDoor
open Go.RowKit

theorem conv_bytes (w : World) (s : ByteArray) : ∃ c w1, (convert 9 72 (.string s)).run Tryd.prog w = .ok (.slice (some ⟨w.heap.size, 0, none⟩) s.size c) w1 ∧ Fr Nothing w w1 ∧ Rd w1 (fun k => k = w.heap.size) 1 (some ⟨w.heap.size, 0, none⟩) s.size ((strL s).map bv) := by
  refine ⟨_, _, Lib.run_convert_string_bytes w 9 72 5 s Tryd.underlying9 Tryd.underlying72 Tryd.underlying5, ⟨rfl, rfl, rfl, ?_, fun k hk _ => Lib.bytesWorld_at_old w _ s k hk⟩, ?_, fun _ => ⟨_, rfl, rfl, fun j u hu => ?_⟩⟩
  · rw [Lib.bytesWorld_size]; omega
  · rw [List.length_map, strL_length, Nat.mul_one]
  · rw [List.getElem?_map] at hu
    cases hj : (strL s)[j]? with
    | none => rw [hj] at hu; cases hu
    | some x =>
      rw [hj] at hu
      simp only [Option.map_some, Option.some.injEq] at hu
      have hjl : j < s.size := by rw [← strL_length]; exact (List.getElem?_eq_some_iff.1 hj).1
      rw [show (⟨w.heap.size, 0, none⟩ : Addr).add j = ⟨w.heap.size, j, none⟩ by unfold Addr.add; split <;> simp_all, Lib.bytesWorld_cell w _ s j hjl]
      unfold strL at hj
      rw [List.getD_eq_getElem?_getD, hj, ← hu]
      rfl

def rs1 (l : List UInt8) : Int × (List UInt8 × Nat × Int) := rStep 0 (pNumber 1073741824) (l, 0, 0)
def rs2 (l : List UInt8) : Int × (List UInt8 × Nat × Int) := rStep 0 (pNumber 65536) ((rs1 l).2.1, (rs1 l).2.2.1, (rs1 l).2.2.2)
def rs3 (l : List UInt8) : List UInt8 × (List UInt8 × Nat × Int) := rStep [] (pText 65536) ((rs2 l).2.1, (rs2 l).2.2.1, (rs2 l).2.2.2)
def closeE (st : List UInt8 × Nat × Int) : Int := if st.2.2 = 0 then (if 0 < st.1.length then 5 else 0) else st.2.2

def bitAt (B : List UInt8) (i : Nat) : Nat := byteAt B (i / 8) / 2 ^ (i % 8) % 2
def bitK (B : List UInt8) (n k : Nat) : List UInt8 := (List.range n).map fun i => if i < k then b8 (bitAt B i) else 0
def bitL (B : List UInt8) (n : Nat) : List UInt8 := (List.range n).map fun i => b8 (bitAt B i)
theorem bitK_zero (B : List UInt8) (n : Nat) : bitK B n 0 = List.replicate n 0 := by
  apply List.ext_getElem
  · simp [bitK]
  · intro i h1 h2
    simp [bitK]
theorem bitK_all (B : List UInt8) (n k : Nat) (h : n ≤ k) : bitK B n k = bitL B n := by
  apply List.ext_getElem
  · simp [bitK, bitL]
  · intro i h1 h2
    simp [bitK] at h1
    simp [bitK, bitL, show i < k by omega]
theorem bitK_skip (B : List UInt8) (n k : Nat) (h : bitAt B k = 0) : bitK B n (k + 1) = bitK B n k := by
  apply List.ext_getElem
  · simp [bitK]
  · intro i h1 h2
    simp only [bitK, List.getElem_map, List.getElem_range]
    by_cases e : i = k
    · subst e
      rw [if_pos (by omega), if_neg (by omega), h]
      rfl
    · by_cases e2 : i < k
      · rw [if_pos (by omega), if_pos e2]
      · rw [if_neg (by omega), if_neg e2]
theorem bitK_set (B : List UInt8) (n k : Nat) (h : bitAt B k = 1) : bitK B n (k + 1) = (bitK B n k).set k 1 := by
  apply List.ext_getElem
  · simp [bitK]
  · intro i h1 h2
    rw [List.getElem_set]
    simp only [bitK, List.getElem_map, List.getElem_range]
    by_cases e : k = i
    · subst e
      rw [if_pos (by omega), if_pos rfl, h]
      rfl
    · rw [if_neg e]
      by_cases e2 : i < k
      · rw [if_pos (by omega), if_pos e2]
      · rw [if_neg (by omega), if_neg e2]
theorem bitAt_lt (B : List UInt8) (i : Nat) : bitAt B i < 2 := Nat.mod_lt _ (by omega)

theorem bit_test {B : List UInt8} {sB : ByteArray} (h : (⟨B.toArray⟩ : ByteArray) = sB) (k : Nat) (hx : k / 8 < sB.size) : bits .and .u8 ((((sB[k / 8]'hx).toNat : Nat) : Int) / 2 ^ (k % 8)) 1 = ((bitAt B k : Nat) : Int) := by
  subst h
  have hl : k / 8 < B.length := by simpa [ByteArray.size] using hx
  have e : ((⟨B.toArray⟩ : ByteArray)[k / 8]'hx).toNat = byteAt B (k / 8) := by
    show (B.toArray[k / 8]).toNat = _
    simp [byteAt, hl]
  rw [e]
  have h1 := byteAt_256 B (k / 8)
  have h2 : byteAt B (k / 8) / 2 ^ (k % 8) < 256 := Nat.lt_of_le_of_lt (Nat.div_le_self _ _) h1
  have e2 : ((byteAt B (k / 8) : Nat) : Int) / 2 ^ (k % 8) = ((byteAt B (k / 8) / 2 ^ (k % 8) : Nat) : Int) := by
    rw [Int.natCast_ediv, Int.natCast_pow]
    rfl
  rw [e2]
  have h3 := u8_and_nat (byteAt B (k / 8) / 2 ^ (k % 8)) 1 h2 (by omega)
  rw [Nat.and_one_is_mod] at h3
  exact h3

set_option maxRecDepth 100000 in
set_option maxHeartbeats 4000000 in
theorem Decode_good (s : ByteArray) (f n : Nat) (B : List UInt8) (w : World) (hs : s.size ≤ 1099511627776) (h3 : 2 ≤ w.heap.size) (e1 : (rs1 (strL s)).1 = (f : Int)) (e2 : (rs2 (strL s)).1 = (n : Int)) (e3 : (rs3 (strL s)).1 = B) (e4 : closeE (rs3 (strL s)).2 = 0)
    (hf : f ≤ 1073741824) (h1 : 1 ≤ n) (hn : n ≤ 65536) (hB : B.length = (n + 7) / 8) (hz : ∀ i, n ≤ i → i < 8 * B.length → bitAt B i = 0) :
    Calls Tryd.prog 35 #[.string s] w (NewMap w f n (bitL B n)) := by
  obtain ⟨cc, w1, hcv, hf1, hr1⟩ := conv_bytes w s
  have HF1 := Lib.hid hf1
  have HR1 := Lib.hid hr1
  have HZ := Lib.hid hz
  have HE4 := Lib.hid e4
  have HE3 := Lib.hid e3
  clear hf1 hr1 hz e4 e3
  go_enter Tryd.func35, Tryd.ntmps35
  go_wp2_with fail
  refine (NewReader_any _ _ _ (strL s) _ _ HR1.out hs).mono ?_
  rintro e w2 ⟨g, S, rfl, hr2, hf2, hg2, hS2⟩
  have HR2 := Lib.hid hr2
  have HF2 := Lib.hid (HF1.out.trans hf2)
  have HG2 : Hid (w.heap.size ≤ g) := Nat.le_trans HF1.out.size hg2
  clear hr2 hf2 hg2 hS2 hcv HR1 HF1
  go_wp2_with fail
  refine (rdNumber_any g S _ _ _ 1073741824 _ HR2.out).mono ?_
  rintro e w3 ⟨rfl, hs3⟩
  have hv1 : (rStep 0 (pNumber 1073741824) (strL s, 0, 0)).1 = (f : Int) := e1
  rw [hv1]
  have HS3 : Hid (RrStep w2 g S w3 (rs1 (strL s)).2.1 (rs1 (strL s)).2.2.1 (rs1 (strL s)).2.2.2) := hs3
  clear hs3 hv1 e1
  go_wp2_with fail
  refine (rdNumber_any g S _ _ _ 65536 _ HS3.out.rr).mono ?_
  rintro e w4 ⟨rfl, hs4⟩
  have hv2 : (rStep 0 (pNumber 65536) ((rs1 (strL s)).2.1, (rs1 (strL s)).2.2.1, (rs1 (strL s)).2.2.2)).1 = (n : Int) := e2
  rw [hv2]
  have HS4 : Hid (RrStep w3 g S w4 (rs2 (strL s)).2.1 (rs2 (strL s)).2.2.1 (rs2 (strL s)).2.2.2) := hs4
  clear hs4 hv2 e2
  go_wp2_with fail
  refine (rText_any g S _ _ _ 65536 _ HS4.out.rr).mono ?_
  rintro e w5 ⟨rfl, hs5⟩
  have hv3 : (rStep [] (pText 65536) ((rs2 (strL s)).2.1, (rs2 (strL s)).2.2.1, (rs2 (strL s)).2.2.2)).1 = B := HE3.out
  rw [hv3]
  have HS5 : Hid (RrStep w4 g S w5 (rs3 (strL s)).2.1 (rs3 (strL s)).2.2.1 (rs3 (strL s)).2.2.2) := hs5
  clear hs5 hv3 HE3
  have HF5 : Hid (Fr Nothing w w5) := by
    refine HF2.out.then_ ((HS3.out.fr.trans HS4.out.fr).trans HS5.out.fr) (fun i hi e => ?_)
    have e' : i = g := e
    have := HG2.out
    omega
  have HC := Lib.hid (rClose_any g S _ _ _ _ HS5.out.rr)
  have hce : (if (rs3 (strL s)).2.2.2 = 0 then (if 0 < (rs3 (strL s)).2.1.length then (5 : Int) else 0) else (rs3 (strL s)).2.2.2) = 0 := HE4.out
  rw [hce] at HC
  clear hce HE4 HS3 HS4 HS5 HR2 HF2
  go_wp2_with fail
  refine HC.out.mono ?_
  rintro e w6 ⟨rfl, rfl⟩
  clear HC
  go_wp2_with fail
  refine (New_ok f n _ hf h1 hn (Nat.le_trans h3 HF5.out.size)).mono ?_
  rintro e w6 ⟨gm, b, c, rfl, hm, hf6, hg6, hb6⟩
  have HM := Lib.hid hm
  have HF6 : Hid (Fr Nothing w w6) := HF5.out.trans hf6
  have HN6 : Hid (w.heap.size ≤ gm ∧ w.heap.size ≤ b) := ⟨Nat.le_trans HF5.out.size hg6, Nat.le_trans HF5.out.size hb6⟩
  clear hm hf6 hg6 hb6 HF5
  unfold tV
  have hsz : (⟨B.toArray⟩ : ByteArray).size = (n + 7) / 8 := by simp [ByteArray.size, hB]
  rw [hB] at HZ
  generalize hsB : (⟨B.toArray⟩ : ByteArray) = sB at *
  have HSB := Lib.hid hsB
  clear hsB
  generalize hq : (n + 7) / 8 = q at *
  have hq2 : q ≤ 8192 := by omega
  have hqb : ((q : Int) != ((n : Int) + 7) / 8) = false := by simp only [bne_eq_false_iff_eq]; omega
  go_wp2
  go_loopw [42] (fun i wr => ∃ k : Nat, k ≤ 8 * q ∧ i = .int .i64 k ∧ BM wr gm b c f n (bitK B n k) ∧ Fr (One b) w6 wr) (fun i _ => 8 * q - (intOf i).toNat)
  case atStart => exact ⟨0, Nat.zero_le _, rfl, by rw [bitK_zero]; exact HM.out, Fr.refl _ _⟩
  case round =>
    obtain ⟨k, hk, rfl, hM, hF⟩ := hrel
    have KM := Lib.hid hM
    have KF := Lib.hid hF
    clear hM hF HM
    have c1 := KM.out.c1
    by_cases hlt : k < 8 * q
    · have hx : k / 8 < sB.size := by omega
      have hb := bit_test HSB.out k hx
      have hb2 := bitAt_lt B k
      have HZk := Lib.hid (HZ.out k)
      by_cases h0 : bitAt B k = 0
      · rw [h0] at hb
        have HK := Lib.hid (bitK_skip B n k h0)
        clear h0 hb2 HZk
        have hb0 : (bits BinOp.and IntKind.u8 ((((sB[k / 8]'hx).toNat : Nat) : Int) / 2 ^ (k % 8)) 1 == 0) = true := by rw [hb]; rfl
        clear hb
        go_wp2
        go_roundw
        case rel => exact ⟨k + 1, by omega, by go_num, by rw [HK.out]; exact KM.out, KF.out⟩
        case measure => simp [intOf]; omega
      · have h1b : bitAt B k = 1 := by omega
        rw [h1b] at hb
        have hkn : k < n := by
          rcases Nat.lt_or_ge k n with h | h
          · exact h
          · exact absurd (HZk.out h hlt) h0
        have HK := Lib.hid (bitK_set B n k h1b)
        have hb0 : (bits BinOp.and IntKind.u8 ((((sB[k / 8]'hx).toNat : Nat) : Int) / 2 ^ (k % 8)) 1 == 0) = false := by rw [hb]; rfl
        have hge : decide (n ≤ k) = false := by simpa using hkn
        have fz := KM.out.free k
        have c2 := KM.out.at_ hkn
        have KS : Hid (BM (wr.setCell ⟨b, k, none⟩ (.int .u8 1)) gm b c f n (bitK B n (k + 1))) := by
          simp only [Hid]
          rw [HK.out]
          exact KM.out.set k 1 (by decide)
        have KT : Hid (Fr (One b) w6 (wr.setCell ⟨b, k, none⟩ (.int .u8 1))) := KF.out.trans fr_set
        clear h0 h1b hb2 HZk hb HK KM KF
        go_wp2
        go_roundw
        case rel => exact ⟨k + 1, by omega, by go_num, KS.out, KT.out⟩
        case measure => simp [intOf]; omega
    · have hd : decide (k < 8 * q) = false := by simpa using hlt
      have HL := Lib.hid (bitK_all B n k (by omega))
      rw [HL.out] at KM
      go_wp2
      go_ret2
      exact ⟨gm, b, c, rfl, KM.out, HF6.out.then_ KF.out (fun i hi e => by have e' : i = b := e; have := HN6.out.2; omega), HN6.out.1, HN6.out.2⟩
end Go.Proofs.YtejajafbopabmaaDoor
