/- image.Encode. -/
import Derived.Test.YtfdcmjjafngonaaDoorImE
namespace Go.Proofs.YtfdcmjjafngonaaDoor
open Go.RowKit

/-- What is written between Magic and the check. -/
def midL (c d : List UInt8) (z e : Nat) : List UInt8 := enc c.length ++ c ++ (enc d.length ++ d) ++ enc z ++ enc e
def bodyL (c d : List UInt8) (z e : Nat) : List UInt8 := magic ++ midL c d z e
def encL (c d : List UInt8) (z e : Nat) : List UInt8 := bodyL c d z e ++ chk8 (bodyL c d z e)
/-- What Encode returns. -/
def encV (c d : List UInt8) (z e : Int) : List UInt8 := if checkI c.length d.length z e = 0 then encL c d z.toNat e.toNat else []
theorem enc_le10 (n : Nat) (_h : n < 9223372036854775808) : (enc n).length ≤ 10 := enc_length n
theorem midL_length (c d : List UInt8) (z e : Nat) (hc : c.length ≤ 4096) (hd : d.length ≤ 4096) (hz : z ≤ 4096) (he : e ≤ 4096) : (midL c d z e).length ≤ 8300 := by
  have h1 := enc_le10 c.length (by omega)
  have h2 := enc_le10 d.length (by omega)
  have h3 := enc_le10 z (by omega)
  have h4 := enc_le10 e (by omega)
  simp only [midL, List.length_append]
  omega

def mg : ByteArray := ⟨#[127, 82, 80, 76]⟩
theorem strL_mg : strL mg = magic := rfl

set_option maxRecDepth 100000 in
set_option maxHeartbeats 4000000 in
theorem Encode_ok (c d : ByteArray) (z e : Nat) (w : World) (hk : checkI c.size d.size z e = 0) (hT : ShaTab w) :
    Calls Tryd.prog 21 #[imgV c d z e] w (SameIn w (.tuple #[.string ⟨(encL (strL c) (strL d) z e).toArray⟩, .int .i64 0])) := by
  have hok := checkI_ok hk
  have hu := upN_le c.size
  have hc : c.size ≤ 4096 := by omega
  have hd : d.size ≤ 4096 := by omega
  have hz : z ≤ 4096 := by omega
  have he : e ≤ 4096 := by omega
  have CH := Lib.hid (fun w => Check_any c d z e w (by omega) (by omega) (by omega) (by omega))
  rw [hk] at CH
  have hml := midL_length (strL c) (strL d) z e (by rw [strL_length]; omega) (by rw [strL_length]; omega) hz he
  obtain ⟨L, hL⟩ : ∃ L, L = midL (strL c) (strL d) z e := ⟨_, rfl⟩
  obtain ⟨sb, hsb⟩ : ∃ sb : ByteArray, sb = ⟨L.toArray⟩ := ⟨_, rfl⟩
  have hsL : strL sb = L := by rw [hsb, strL_mk]
  have hss : sb.size ≤ 8300 := by rw [← strL_length, hsL, hL]; exact hml
  obtain ⟨MB, hMB⟩ : ∃ MB : ByteArray, MB = mg ++ sb := ⟨_, rfl⟩
  have hMBL : strL MB = bodyL (strL c) (strL d) z e := by rw [hMB, strL_append, strL_mg, hsL, hL]; rfl
  have hMs : MB.size = 4 + sb.size := by rw [← strL_length, hMB, strL_append, List.length_append, strL_length sb]; rfl
  obtain ⟨ck, hck⟩ : ∃ ck : ByteArray, ck = ⟨(chk8 (strL MB)).toArray⟩ := ⟨_, rfl⟩
  have hcs : ck.size ≤ 8 := by rw [← strL_length, hck, strL_mk, chk8_length]; omega
  have CK := Lib.hid (fun w' (hf : Fr Nothing w w') => check_any MB w' (hT.fr0 hf) (by omega) (by omega))
  rw [← hck] at CK
  have hR : (⟨(encL (strL c) (strL d) z e).toArray⟩ : ByteArray) = MB ++ ck := by
    refine (ba_of _ _ ?_).symm
    rw [strL_append, hMBL, hck, strL_mk, hMBL]
    rfl
  rw [hR]
  have HL : Hid ([] ++ (enc c.size ++ strL c) ++ (enc d.size ++ strL d) ++ enc z ++ enc e = L) := by
    simp only [Hid]
    rw [hL, midL, strL_length, strL_length, List.nil_append]
  have e1 := Lib.hid (enc_le10 c.size (by omega))
  have e2 := Lib.hid (enc_le10 d.size (by omega))
  have e3 := Lib.hid (enc_le10 z (by omega))
  have e4 := Lib.hid (enc_le10 e (by omega))
  have HSB := Lib.hid hsb
  have HMB := Lib.hid hMB
  have HLL : Hid (L.length ≤ 8300) := by rw [hL]; exact hml
  have lc := Lib.hid (strL_length c)
  have ld := Lib.hid (strL_length d)
  clear hok hu hml hL hsb hsL hMB hMBL hck hR hT hk
  go_enter Tryd.func21, Tryd.ntmps21
  go_wp2_with (refine wpList_boxBlk rfl 27 (.tmp 0) rfl _ rfl ?_)
  intro w1 n1
  have BW : Hid (Blk w1 w.heap.size 27 (imgC c d z e)) := n1.blk
  have FW := Lib.hid n1.fr
  clear n1
  obtain ⟨k0, k1, k2, k3⟩ := img_cells BW.out (Fr.refl _ _)
  generalize w.heap.size = g at *
  go_wp2_with fail
  refine (CH.out _).mono ?_
  rintro e' w2 ⟨rfl, f2⟩
  have FX := Lib.hid (FW.out.trans f2)
  have BX := Lib.hid (BW.out.fr f2 (fun x => x))
  clear k0 k1 k2 k3 f2 BW FW
  go_wp2_with fail
  refine (NewWriter_any _).mono ?_
  rintro e' w3 ⟨rfl, hwr, f3⟩
  have GW : Hid (w.heap.size ≤ w2.heap.size ∧ g < w2.heap.size) := ⟨FX.out.size, BX.out.lt⟩
  generalize w2.heap.size = gw at *
  have FY := Lib.hid (FX.out.trans f3)
  have BY := Lib.hid (BX.out.fr f3 (fun x => x))
  have HS := Lib.hid (WrStep.start hwr)
  clear hwr f3 FX BX CH
  obtain ⟨k0, k1, k2, k3⟩ := img_cells BY.out (Fr.refl _ _)
  go_wp2_with fail
  refine (wText_any _ _ _ _ c _ HS.out.wr (by simp) (by omega)).mono ?_
  rintro e' w4 ⟨rfl, v4, hs4⟩
  rw [wText_small _ _ (by omega)] at hs4
  have HS4 := Lib.hid (HS.out.trans hs4)
  clear hs4 HS k0 k1 k2 k3
  have SEP : Hid (∀ k, WrT gw (.slice none 0 0) k → k = gw) := fun k hk => by
    rcases hk with hk | hk
    · exact hk
    · simp [Value.ownBlock] at hk
  have BZ := Lib.hid (BY.out.fr HS4.out.fr (fun hk => by have := SEP.out _ hk; have := GW.out; omega))
  obtain ⟨k0, k1, k2, k3⟩ := img_cells BZ.out (Fr.refl _ _)
  go_wp2_with fail
  refine (wText_any _ _ _ _ d _ HS4.out.wr (by have := e1.out; have := lc.out; simp only [List.nil_append, List.length_append]; omega) (by omega)).mono ?_
  rintro e' w5 ⟨rfl, v5, hs5⟩
  rw [wText_small _ _ (by omega)] at hs5
  have HS5 := Lib.hid (HS4.out.trans hs5)
  clear hs5 HS4 BZ k0 k1 k2 k3
  have BZ := Lib.hid (BY.out.fr HS5.out.fr (fun hk => by have := SEP.out _ hk; have := GW.out; omega))
  obtain ⟨k0, k1, k2, k3⟩ := img_cells BZ.out (Fr.refl _ _)
  go_wp2_with fail
  refine (wNumber_any _ _ _ _ z _ HS5.out.wr (by have := e1.out; have := e2.out; have := lc.out; have := ld.out; simp only [List.nil_append, List.length_append]; omega) (by omega)).mono ?_
  rintro e' w6 ⟨rfl, v6, hs6⟩
  rw [wNumber_pos] at hs6
  have HS6 := Lib.hid (HS5.out.trans hs6)
  clear hs6 HS5 BZ k0 k1 k2 k3
  have BZ := Lib.hid (BY.out.fr HS6.out.fr (fun hk => by have := SEP.out _ hk; have := GW.out; omega))
  obtain ⟨k0, k1, k2, k3⟩ := img_cells BZ.out (Fr.refl _ _)
  go_wp2_with fail
  refine (wNumber_any _ _ _ _ e _ HS6.out.wr (by have := e1.out; have := e2.out; have := e3.out; have := lc.out; have := ld.out; simp only [List.nil_append, List.length_append]; omega) (by omega)).mono ?_
  rintro e' w7 ⟨rfl, v7, hs7⟩
  rw [wNumber_pos] at hs7
  have HS7 := Lib.hid (HS6.out.trans hs7)
  clear hs7 HS6 BZ k0 k1 k2 k3
  have F7 : Hid (Fr Nothing w w7) := FY.out.then_ HS7.out.fr (fun i hi hk => by have := SEP.out _ hk; have := GW.out; omega)
  have HW7 := Lib.hid HS7.out.wr
  rw [HL.out] at HW7
  go_wp2_with fail
  refine (wBytes_any _ _ _ _ _ HW7.out (by have := HLL.out; omega)).mono ?_
  rintro e' w8 ⟨_, hx⟩
  obtain ⟨v8, rfl, hg8⟩ := hx rfl
  obtain ⟨A8, n8, c8, rfl, H8, _⟩ := own_slice hg8.own
  have hcv := run_strT w8 _ _ _ c8 _ (OwnB.rd hg8.own H8.out)
  rw [← HSB.out] at hcv
  have F8 := Lib.hid (F7.out.trans hg8.fr0)
  clear hg8 hx F7
  go_wp2_with fail
  rw [show (⟨#[127, 82, 80, 76]⟩ ++ sb : ByteArray) = MB from HMB.out.symm]
  refine (CK.out _ F8.out).mono ?_
  rintro e' w9 ⟨rfl, f9⟩
  have F9 := Lib.hid (F8.out.trans f9)
  clear f9 hcv
  go_wp2
  go_ret2
  exact ⟨rfl, F9.out⟩

set_option maxRecDepth 100000 in
set_option maxHeartbeats 1000000 in
theorem Encode_any (c d : ByteArray) (z e : Int) (w : World) (hc : c.size ≤ 1099511627776) (hd : d.size ≤ 1099511627776) (hz : -9223372036854775808 ≤ z ∧ z ≤ 9223372036854775807) (he : -9223372036854775808 ≤ e ∧ e ≤ 9223372036854775807) (hT : ShaTab w) :
    Calls Tryd.prog 21 #[imgV c d z e] w (SameIn w (.tuple #[.string ⟨(encV (strL c) (strL d) z e).toArray⟩, .int .i64 (checkI c.size d.size z e)])) := by
  by_cases hk : checkI c.size d.size z e = 0
  · have hok := checkI_ok hk
    obtain ⟨z', rfl⟩ : ∃ z' : Nat, z = z' := ⟨z.toNat, by omega⟩
    obtain ⟨e', rfl⟩ : ∃ e' : Nat, e = e' := ⟨e.toNat, by omega⟩
    have := Encode_ok c d z' e' w hk hT
    unfold encV
    rw [strL_length, strL_length, if_pos hk, hk, Int.toNat_natCast, Int.toNat_natCast]
    exact this
  · have CH := Lib.hid (fun w => Check_any c d z e w hc hd hz he)
    have t1 : (checkI c.size d.size z e != 0) = true := by rw [bne_iff_ne]; exact hk
    have hcr := checkI_range c.size d.size z e
    unfold encV
    rw [strL_length, strL_length, if_neg hk]
    clear hk hT
    generalize checkI c.size d.size z e = k at *
    go_enter Tryd.func21, Tryd.ntmps21
    go_wp2_with (refine wpList_boxBlk rfl 27 (.tmp 0) rfl _ rfl ?_)
    intro w1 n1
    have BW : Hid (Blk w1 w.heap.size 27 (imgC c d z e)) := n1.blk
    have FW := Lib.hid n1.fr
    clear n1
    obtain ⟨k0, k1, k2, k3⟩ := img_cells BW.out (Fr.refl _ _)
    generalize w.heap.size = g at *
    go_wp2_with fail
    refine (CH.out _).mono ?_
    rintro e' w2 ⟨rfl, f2⟩
    have FX := Lib.hid (FW.out.trans f2)
    clear f2
    go_wp2
    go_ret2
    exact ⟨rfl, FX.out⟩
end Go.Proofs.YtfdcmjjafngonaaDoor
