/- What Decode reads out of an encoding: plain. -/
import Derived.Test.YtejajafbopabmaaDoorBlkG
import Derived.Test.YtejajafbopabmaaDoorBlkQ
namespace Go.Proofs.YtejajafbopabmaaDoor

theorem bitAt_test (B : List UInt8) (i : Nat) : bitAt B i = ((byteAt B (i / 8)).testBit (i % 8)).toNat := by
  unfold bitAt
  rw [Nat.toNat_testBit]
theorem bit_or_self (L : List UInt8) (k : Nat) (h : k / 8 < L.length) : bitAt (orB L k) k = 1 := by
  rw [bitAt_test, byteAt_orB, if_pos ⟨rfl, h⟩, Nat.testBit_or, Nat.testBit_two_pow_self, Bool.or_true]
  rfl
theorem bit_or_ne (L : List UInt8) (k i : Nat) (h : i ≠ k) : bitAt (orB L k) i = bitAt L i := by
  rw [bitAt_test, bitAt_test, byteAt_orB]
  split
  · rename_i e
    rw [Nat.testBit_or, Nat.testBit_two_pow_of_ne (by omega), Bool.or_false]
  · rfl
theorem bit_zero (q n : Nat) (l : List UInt8) (i : Nat) : bitAt (bitsOf q (pickF l 1 2 n 0)) i = 0 := by
  have := bits_low q n l 0 (i / 8)
  have e : byteAt (bitsOf q (pickF l 1 2 n 0)) (i / 8) = 0 := by simpa using this
  unfold bitAt
  rw [e]
  simp
theorem bit_pick (n : Nat) (l : List UInt8) (i : Nat) (hi : i < n) : ∀ k, k ≤ n → bitAt (bitsOf ((n + 7) / 8) (pickF l 1 2 n k)) i = if i < k ∧ hit l 1 2 i = true then 1 else 0
  | 0, _ => by rw [bit_zero, if_neg (by omega)]
  | k + 1, hk => by
    have ih := bit_pick n l i hi k (by omega)
    by_cases hh : hit l 1 2 k = true
    · rw [pickF_hit (by omega) hh, bitsOf_snoc]
      by_cases e : i = k
      · subst e
        rw [bit_or_self _ _ (by rw [bitsOf_length]; omega), if_pos ⟨by omega, hh⟩]
      · rw [bit_or_ne _ _ _ e, ih]
        by_cases a : i < k ∧ hit l 1 2 i = true
        · rw [if_pos a, if_pos ⟨by omega, a.2⟩]
        · rw [if_neg a, if_neg (fun x => a ⟨by omega, x.2⟩)]
    · rw [pickF_miss (by simpa using hh), ih]
      by_cases a : i < k ∧ hit l 1 2 i = true
      · rw [if_pos a, if_pos ⟨by omega, a.2⟩]
      · rw [if_neg a, if_neg (fun x => a ⟨by
          by_cases e : i = k
          · subst e; exact absurd x.2 hh
          · omega, x.2⟩)]
theorem bit_high (n : Nat) (l : List UInt8) (i : Nat) (hi : n ≤ i) : bitAt (bitsOf ((n + 7) / 8) (pickF l 1 2 n n)) i = 0 := by
  have h := bits_low ((n + 7) / 8) n l n (i / 8)
  have h2 : 2 ^ (n - 8 * (i / 8)) ≤ 2 ^ (i % 8) := Nat.pow_le_pow_right (by omega) (by omega)
  unfold bitAt
  rw [Nat.div_eq_of_lt (by omega)]

theorem tabC_hit (s : UInt8) (h : s.toNat < 4) : tabC s = b8 (if s.toNat = 1 ∨ s.toNat = 2 then 1 else 0) := by
  have : s = 0 ∨ s = 1 ∨ s = 2 ∨ s = 3 := by
    have : s.toNat = 0 ∨ s.toNat = 1 ∨ s.toNat = 2 ∨ s.toNat = 3 := by omega
    rcases this with h | h | h | h
    · exact .inl (UInt8.toNat_inj.1 h)
    · exact .inr (.inl (UInt8.toNat_inj.1 h))
    · exact .inr (.inr (.inl (UInt8.toNat_inj.1 h)))
    · exact .inr (.inr (.inr (UInt8.toNat_inj.1 h)))
  rcases this with rfl | rfl | rfl | rfl <;> decide

theorem bitL_enc (n : Nat) (l : List UInt8) (hl : l.length = n) (h4 : ok4 l) : bitL (bitsOf ((n + 7) / 8) (pickF l 1 2 n n)) n = l.map tabC := by
  apply List.ext_getElem
  · simp [bitL, hl]
  · intro i h1 h2
    have hi : i < n := by simpa [bitL] using h1
    have hil : i < l.length := by omega
    simp only [bitL, List.getElem_map, List.getElem_range]
    rw [bit_pick n l i hi n (Nat.le_refl _), tabC_hit _ (h4 _ (List.getElem_mem hil))]
    have e : byteAt l i = (l[i]).toNat := by simp [byteAt, hil]
    congr 1
    unfold hit
    simp only [Bool.or_eq_true, beq_iff_eq, e]
    by_cases a : (l[i]).toNat = 1 ∨ (l[i]).toNat = 2
    · rw [if_pos a, if_pos ⟨hi, a⟩]
    · rw [if_neg a, if_neg (fun x => a x.2)]

theorem pickF_alike {l l' : List UInt8} {n : Nat} (h : ∀ k, k < n → hit l 1 2 k = hit l' 1 2 k) : ∀ k, k ≤ n → pickF l 1 2 n k = pickF l' 1 2 n k
  | 0, _ => rfl
  | k + 1, hk => by
    have ih := pickF_alike h k (by omega)
    by_cases hh : hit l 1 2 k = true
    · rw [pickF_hit (by omega) hh, pickF_hit (by omega) ((h k (by omega)).symm.trans hh), ih]
    · have hf : hit l 1 2 k = false := by simpa using hh
      rw [pickF_miss hf, pickF_miss ((h k (by omega)).symm.trans hf), ih]
theorem pickF_tabC (n : Nat) (l : List UInt8) (hl : l.length = n) (h4 : ok4 l) : pickF (l.map tabC) 1 2 n n = pickF l 1 2 n n := by
  refine pickF_alike (fun k hk => ?_) n (Nat.le_refl _)
  have hkl : k < l.length := by omega
  have e : byteAt l k = (l[k]).toNat := by simp [byteAt, hkl]
  have e2 : byteAt (l.map tabC) k = (tabC l[k]).toNat := by simp [byteAt, hkl]
  unfold hit
  rw [e, e2, tabC_hit _ (h4 _ (List.getElem_mem hkl))]
  have := h4 _ (List.getElem_mem hkl)
  by_cases a : (l[k]).toNat = 1 ∨ (l[k]).toNat = 2
  · rw [if_pos a]
    rcases a with a | a <;> rw [a] <;> decide
  · rw [if_neg a]
    have : (l[k]).toNat = 0 ∨ (l[k]).toNat = 3 := by omega
    rcases this with a | a <;> rw [a] <;> decide

theorem pn_small (u : Nat) (hu : u < 34359738368) (r : List UInt8) : pn (enc u ++ r) 9 = (u, (enc u).length, 0) := by
  have h5 : u < 128 ^ (4 + 1) := by simpa using hu
  have e : enc u = encF 4 u := encF_fuel 4 9 u h5 (by omega)
  rw [e]
  have := encF_length 4 u
  exact pn_encF 4 u 9 r h5 (by omega) (by omega) (by omega)
theorem rStep_of' {α : Type} (zero : α) (parse : List UInt8 → α × Nat × Int) (l : List UInt8) (p : Nat) (x : α) (k : Nat) (h : parse l = (x, k, 0)) : rStep zero parse (l, p, 0) = (x, (l.drop k, p + k, 0)) := by
  unfold rStep
  simp [h]
theorem pNumber_enc (u most : Nat) (hu : u < 34359738368) (hm : u ≤ most) (r : List UInt8) : pNumber (most : Int) (enc u ++ r) = ((u : Int), (enc u).length, 0) := by
  unfold pNumber
  rw [pn_small u hu r]
  simp only [true_and]
  rw [if_neg (by omega)]
  rfl
theorem pText_enc (B : List UInt8) (hB : B.length ≤ 65536) : pText 65536 (enc B.length ++ B) = (B, (enc B.length).length + B.length, 0) := by
  unfold pText
  rw [pn_small B.length (by omega) B]
  simp only [ne_eq, not_true_eq_false, if_false]
  rw [if_neg (by omega), if_neg (by simp), List.drop_left, List.take_length]

theorem rs1_enc (f n : Nat) (B : List UInt8) (hf : f ≤ 1073741824) : rs1 (encB f n B) = ((f : Int), (enc n ++ (enc B.length ++ B), (enc f).length, 0)) := by
  unfold rs1 encB
  rw [List.append_assoc, rStep_of' 0 (pNumber 1073741824) _ 0 (f : Int) (enc f).length (pNumber_enc f 1073741824 (by omega) hf _), List.drop_left, Nat.zero_add]
theorem rs2_enc (f n : Nat) (B : List UInt8) (hf : f ≤ 1073741824) (hn : n ≤ 65536) : rs2 (encB f n B) = ((n : Int), (enc B.length ++ B, (enc f).length + (enc n).length, 0)) := by
  unfold rs2
  rw [rs1_enc f n B hf, rStep_of' 0 (pNumber 65536) _ _ (n : Int) (enc n).length (pNumber_enc n 65536 (by omega) hn _), List.drop_left]
theorem rs3_enc (f n : Nat) (B : List UInt8) (hf : f ≤ 1073741824) (hn : n ≤ 65536) (hB : B.length ≤ 65536) : (rs3 (encB f n B)).1 = B ∧ closeE (rs3 (encB f n B)).2 = 0 := by
  unfold rs3
  rw [rs2_enc f n B hf hn, rStep_of' [] (pText 65536) _ _ B _ (pText_enc B hB)]
  refine ⟨rfl, ?_⟩
  unfold closeE
  rw [if_pos rfl, if_neg (by simp)]
theorem encB_length (f n : Nat) (B : List UInt8) : (encB f n B).length ≤ 30 + B.length := by
  have := enc_length f
  have := enc_length n
  have := enc_length B.length
  simp only [encB, List.length_append]
  omega

/-- Decode of what Encode gives. -/
theorem Decode_enc (f n : Nat) (l : List UInt8) (w : World) (h3 : 2 ≤ w.heap.size) (hf : f ≤ 1073741824) (h1 : 1 ≤ n) (hn : n ≤ 65536) (hl : l.length = n) (h4 : ok4 l) :
    Calls Tryd.prog 35 #[.string ⟨(encB f n (bitsOf ((n + 7) / 8) (pickF l 1 2 n n))).toArray⟩] w (NewMap w f n (l.map tabC)) := by
  have hb := bitsOf_length ((n + 7) / 8) (pickF l 1 2 n n)
  have hz := bit_high n l
  have he := encB_length f n (bitsOf ((n + 7) / 8) (pickF l 1 2 n n))
  have hbl : (bitsOf ((n + 7) / 8) (pickF l 1 2 n n)).length ≤ 65536 := by omega
  rw [← bitL_enc n l hl h4]
  generalize bitsOf ((n + 7) / 8) (pickF l 1 2 n n) = B at *
  have e := rs3_enc f n B hf hn hbl
  have es : strL ⟨(encB f n B).toArray⟩ = encB f n B := by simp [strL]
  refine Decode_good ⟨(encB f n B).toArray⟩ f n B w ?_ h3 ?_ ?_ ?_ ?_ hf h1 hn hb (fun i hi _ => hz i hi)
  · simp only [ByteArray.size, List.size_toArray]; omega
  · rw [es, rs1_enc f n B hf]
  · rw [es, rs2_enc f n B hf hn]
  · rw [es]; exact e.1
  · rw [es]; exact e.2
end Go.Proofs.YtejajafbopabmaaDoor
