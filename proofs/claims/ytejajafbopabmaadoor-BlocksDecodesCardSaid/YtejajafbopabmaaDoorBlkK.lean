/- Bits there and back: plain. -/
import Derived.Test.YtejajafbopabmaaDoorBlkH
namespace Go.Proofs.YtejajafbopabmaaDoor

theorem hit_bitL (B : List UInt8) (n i : Nat) (hi : i < n) : (hit (bitL B n) 1 2 i = true) ↔ bitAt B i = 1 := by
  have h2 := bitAt_lt B i
  have e : byteAt (bitL B n) i = bitAt B i := by
    unfold byteAt bitL
    rw [List.getElem?_map, List.getElem?_range hi]
    simp only [Option.map_some, Option.getD_some, b8]
    rw [UInt8.toNat_ofNat_of_lt' (by show bitAt B i < 256; omega)]
  unfold hit
  simp only [e, Bool.or_eq_true, beq_iff_eq]
  constructor
  · rintro (h | h)
    · exact h
    · have h' : bitAt B i = 2 := h
      omega
  · intro h
    exact .inl h

theorem bits_back (n : Nat) (B : List UInt8) (hB : B.length = (n + 7) / 8) (hz : ∀ i, n ≤ i → i < 8 * B.length → bitAt B i = 0) : bitsOf ((n + 7) / 8) (pickF (bitL B n) 1 2 n n) = B := by
  have hbit : ∀ i, i < 8 * B.length → bitAt (bitsOf ((n + 7) / 8) (pickF (bitL B n) 1 2 n n)) i = bitAt B i := by
    intro i hi
    by_cases hin : i < n
    · rw [bit_pick n _ i hin n (Nat.le_refl _)]
      have h2 := bitAt_lt B i
      by_cases h : bitAt B i = 1
      · rw [if_pos ⟨hin, (hit_bitL B n i hin).2 h⟩, h]
      · rw [if_neg (fun x => h ((hit_bitL B n i hin).1 x.2))]
        omega
    · rw [bit_high n _ i (by omega), hz i (by omega) hi]
  have hl := bitsOf_length ((n + 7) / 8) (pickF (bitL B n) 1 2 n n)
  generalize bitsOf ((n + 7) / 8) (pickF (bitL B n) 1 2 n n) = C at *
  apply List.ext_getElem
  · omega
  · intro j h1 h2
    apply UInt8.toNat_inj.1
    have e1 : byteAt C j = (C[j]).toNat := by simp [byteAt, h1]
    have e2 : byteAt B j = (B[j]).toNat := by simp [byteAt, h2]
    rw [← e1, ← e2]
    apply Nat.eq_of_testBit_eq
    intro r
    by_cases hr : r < 8
    · have h := hbit (8 * j + r) (by omega)
      rw [bitAt_test, bitAt_test, show (8 * j + r) / 8 = j by omega, show (8 * j + r) % 8 = r by omega] at h
      cases ha : (byteAt C j).testBit r <;> cases hb : (byteAt B j).testBit r <;> simp_all
    · have h256 : (256 : Nat) ≤ 2 ^ r := by
        have := Nat.pow_le_pow_right (n := 2) (by omega) (show 8 ≤ r by omega)
        simpa using this
      rw [Nat.testBit_lt_two_pow (Nat.lt_of_lt_of_le (byteAt_256 C j) h256), Nat.testBit_lt_two_pow (Nat.lt_of_lt_of_le (byteAt_256 B j) h256)]
end Go.Proofs.YtejajafbopabmaaDoor
