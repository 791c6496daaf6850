/- Image: the two Decodes return the same. -/
import Derived.Test.YtfdcmjjafngonaaDoorImP
namespace Go.Proofs.YtfdcmjjafngonaaDoor
open Go.RowKit

theorem takeL_enc (n : Nat) (r : List UInt8) (h : n < 9223372036854775808) : takeL (enc n ++ r) = ((n : Int), r) := by
  unfold takeL
  rw [pn_enc9 n r h]
  simp
theorem pieceL_enc (c r : List UInt8) (h : c.length < 9223372036854775808) : pieceL (enc c.length ++ (c ++ r)) = (c, r) := by
  unfold pieceL
  rw [takeL_enc _ _ h]
  rw [if_neg (by simp only [List.length_append]; omega)]
  simp

theorem readI_bad (m : List UInt8) (h : (readI m).2 ≠ 0) : readI m = (([], [], 0, 0), 3) := by
  unfold readI at h ⊢
  simp only at h ⊢
  split
  · rfl
  · rename_i hc
    rw [if_neg hc] at h
    exact absurd rfl h

theorem decT_enc (c d : List UInt8) (z e : Nat) (h : checkI c.length d.length z e = 0) : ∀ x, x = (encL c d z e).drop 4 → decT (encL c d z e) (pieceL x) (pieceL (pieceL x).2) (takeL (pieceL (pieceL x).2).2) (takeL (takeL (pieceL (pieceL x).2).2).2) = ((c, d, (z : Int), (e : Int)), 0) := by
  intro x hx
  have hok := checkI_ok h
  have hu := upN_le c.length
  have e1 : x = enc c.length ++ (c ++ (enc d.length ++ (d ++ (enc z ++ (enc e ++ chk8 (bodyL c d z e)))))) := by
    rw [hx]
    unfold encL
    have : bodyL c d z e ++ chk8 (bodyL c d z e) = magic ++ (midL c d z e ++ chk8 (bodyL c d z e)) := by
      rw [← List.append_assoc]
      rfl
    rw [this, List.drop_left' (show magic.length = 4 from rfl)]
    simp only [midL, List.append_assoc]
  rw [e1, pieceL_enc _ _ (by omega)]
  simp only
  rw [pieceL_enc _ _ (by omega)]
  simp only
  rw [takeL_enc _ _ (by omega)]
  simp only
  rw [takeL_enc _ _ (by omega)]
  unfold decT
  simp only
  have hE : encV c d z e = encL c d z e := by
    unfold encV
    rw [if_pos h, Int.toNat_natCast, Int.toNat_natCast]
  rw [if_neg (by
    rintro (h1 | h1 | h1)
    · exact h1 h
    · exact h1 hE
    · exact h1 (chk8_length _))]

/-- The reference's Decode returns what Decode returns. -/
theorem decR_eq (l : List UInt8) : decR l = decV l := by
  have hc := decV_canon l
  have hD : decV l = (if 4200 < l.length then (([], [], 0, 0), 5) else if isImg l = false then (([], [], 0, 0), 3) else if l.length < 12 then (([], [], 0, 0), 4)
      else if chk8 (l.take (l.length - 8)) ≠ l.drop (l.length - 8) then (([], [], 0, 0), 27) else readI ((l.take (l.length - 8)).drop 4)) := rfl
  unfold decR
  by_cases h1 : 4200 < l.length
  · rw [hD, if_pos h1, if_pos h1]
  rw [if_neg h1] at hD ⊢
  by_cases h2 : isImg l = false
  · rw [hD, if_pos h2, if_pos h2]
  rw [if_neg h2] at hD ⊢
  by_cases h3 : l.length < 12
  · rw [hD, if_pos h3, if_pos h3]
  rw [if_neg h3] at hD ⊢
  by_cases h4 : chk8 (l.take (l.length - 8)) ≠ l.drop (l.length - 8)
  · rw [hD, if_pos h4, if_pos h4]
  rw [if_neg h4] at hD ⊢
  by_cases h0 : (decV l).2 = 0
  · obtain ⟨c, d, z, e, hv, hk, hl⟩ := hc h0
    rw [hv, hl]
    exact decT_enc c d z e hk _ rfl
  · have hb := readI_bad _ (by rw [← hD]; exact h0)
    rw [hD, hb]
    generalize hp1 : pieceL (l.drop 4) = p1
    generalize hp2 : pieceL p1.2 = p2
    generalize hp3 : takeL p2.2 = p3
    generalize hp4 : takeL p3.2 = p4
    unfold decT
    by_cases hc : checkI p1.1.length p2.1.length p3.1 p4.1 ≠ 0 ∨ encV p1.1 p2.1 p3.1 p4.1 ≠ l ∨ p4.2.length ≠ 8
    · rw [if_pos hc]
    · exfalso
      have k1 : checkI p1.1.length p2.1.length p3.1 p4.1 = 0 := by
        apply Classical.byContradiction
        intro h
        exact hc (.inl h)
      have k2 : encV p1.1 p2.1 p3.1 p4.1 = l := by
        apply Classical.byContradiction
        intro h
        exact hc (.inr (.inl h))
      have hok := checkI_ok k1
      obtain ⟨z, hz⟩ : ∃ z : Nat, p3.1 = z := ⟨p3.1.toNat, by omega⟩
      obtain ⟨e, he⟩ : ∃ e : Nat, p4.1 = e := ⟨p4.1.toNat, by omega⟩
      rw [hz, he] at k1 k2
      unfold encV at k2
      rw [if_pos k1, Int.toNat_natCast, Int.toNat_natCast] at k2
      apply h0
      rw [← k2, decV_enc _ _ z e k1]
end Go.Proofs.YtfdcmjjafngonaaDoor
