/- Image, plainly: what is decoded is the encoding of what comes out. -/
import Derived.Test.YtfdcmjjafngonaaDoorImJ
namespace Go.Proofs.YtfdcmjjafngonaaDoor
open Go.RowKit

theorem pn_okI (l : List UInt8) (m : Nat) (hm : m ≤ 10) (h : (pn l m).2.2 = 0) : enc (pn l m).1 = l.take (pn l m).2.1 ∧ (pn l m).2.1 ≤ l.length := by
  rcases pn_cases l m hm with (h' | h') | ⟨k, h0, h1, h2, h3, _, h5, h'⟩
  · rw [h'] at h; simp at h
  · rw [h'] at h; simp at h
  · rw [h']
    exact ⟨enc_val l m k h0 hm h1 h2 h3 h5, h2⟩

theorem rStep_stuck {α : Type} (zero : α) (parse : List UInt8 → α × Nat × Int) (st : List UInt8 × Nat × Int) (h : st.2.2 ≠ 0) : (rStep zero parse st).2 = st := by
  unfold rStep
  rw [if_pos h]
theorem rText_inv (st : List UInt8 × Nat × Int) (h : (rStep [] (pText 4096) st).2.2.2 = 0) : st.2.2 = 0 ∧ st.1 = enc (rStep [] (pText 4096) st).1.length ++ (rStep [] (pText 4096) st).1 ++ (rStep [] (pText 4096) st).2.1 := by
  by_cases h0 : st.2.2 = 0
  · refine ⟨h0, ?_⟩
    unfold rStep at h ⊢
    rw [if_neg (by omega)] at h ⊢
    by_cases h1 : (pText 4096 st.1).2.2 = 0
    · rw [if_neg (by omega)]
      simp only
      unfold pText at h1 ⊢
      by_cases h2 : (pn st.1 9).2.2 ≠ 0
      · rw [if_pos h2] at h1
        simp only at h1
        omega
      rw [if_neg h2] at h1 ⊢
      by_cases h3 : (4096 : Int) < ((pn st.1 9).1 : Int) ∨ 16777216 < (pn st.1 9).1
      · rw [if_pos h3] at h1
        cases h1
      rw [if_neg h3] at h1 ⊢
      by_cases h4 : st.1.length < (pn st.1 9).2.1 + (pn st.1 9).1
      · rw [if_pos h4] at h1
        cases h1
      rw [if_neg h4]
      simp only
      obtain ⟨he, hk⟩ := pn_okI st.1 9 (by omega) (by omega)
      generalize (pn st.1 9).2.1 = k at *
      generalize (pn st.1 9).1 = n at *
      have hl : ((st.1.drop k).take n).length = n := by rw [List.length_take, List.length_drop]; omega
      rw [hl, he, List.append_assoc, ← List.drop_drop, List.take_append_drop, List.take_append_drop]
    · rw [if_pos h1] at h
      exact absurd h h1
  · rw [rStep_stuck _ _ _ h0] at h
    exact absurd h h0
theorem rNum_inv (st : List UInt8 × Nat × Int) (h : (rStep 0 (pNumber 4096) st).2.2.2 = 0) : st.2.2 = 0 ∧ st.1 = enc (rStep 0 (pNumber 4096) st).1.toNat ++ (rStep 0 (pNumber 4096) st).2.1 := by
  by_cases h0 : st.2.2 = 0
  · refine ⟨h0, ?_⟩
    unfold rStep at h ⊢
    rw [if_neg (by omega)] at h ⊢
    by_cases h1 : (pNumber 4096 st.1).2.2 = 0
    · rw [if_neg (by omega)]
      simp only
      unfold pNumber at h1 ⊢
      simp only at h1 ⊢
      have h2 : (pn st.1 9).2.2 = 0 := by
        split at h1
        · omega
        · omega
      obtain ⟨he, hk⟩ := pn_okI st.1 9 (by omega) h2
      rw [Int.toNat_natCast, he, List.take_append_drop]
    · rw [if_pos h1] at h
      exact absurd h h1
  · rw [rStep_stuck _ _ _ h0] at h
    exact absurd h h0

theorem readI_canon (m : List UInt8) (h : (readI m).2 = 0) : ∃ c d z e, readI m = ((c, d, ((z : Nat) : Int), ((e : Nat) : Int)), 0) ∧ checkI c.length d.length z e = 0 ∧ m = midL c d z e := by
  obtain ⟨r1, h1⟩ : ∃ r1, rStep [] (pText 4096) (m, 0, 0) = r1 := ⟨_, rfl⟩
  obtain ⟨r2, h2⟩ : ∃ r2, rStep [] (pText 4096) r1.2 = r2 := ⟨_, rfl⟩
  obtain ⟨r3, h3⟩ : ∃ r3, rStep 0 (pNumber 4096) r2.2 = r3 := ⟨_, rfl⟩
  obtain ⟨r4, h4⟩ : ∃ r4, rStep 0 (pNumber 4096) r3.2 = r4 := ⟨_, rfl⟩
  have hR : readI m = if closeI r4.2 ≠ 0 ∨ checkI r1.1.length r2.1.length r3.1 r4.1 ≠ 0 then (([], [], 0, 0), 3) else ((r1.1, r2.1, r3.1, r4.1), 0) := by
    unfold readI
    simp only [h1, h2, h3, h4]
  by_cases hc : closeI r4.2 ≠ 0 ∨ checkI r1.1.length r2.1.length r3.1 r4.1 ≠ 0
  · rw [hR, if_pos hc] at h
    cases h
  rw [if_neg hc] at hR
  have hcl : closeI r4.2 = 0 := by omega
  have hck : checkI r1.1.length r2.1.length r3.1 r4.1 = 0 := by omega
  have hok := checkI_ok hck
  have e4 : r4.2.2.2 = 0 ∧ r4.2.1 = [] := by
    unfold closeI at hcl
    split at hcl
    · rename_i h0
      refine ⟨h0, ?_⟩
      split at hcl
      · cases hcl
      · exact List.eq_nil_of_length_eq_zero (by omega)
    · rename_i h0
      exact absurd hcl h0
  rw [← h4] at e4
  obtain ⟨e3, m3⟩ := rNum_inv r3.2 e4.1
  rw [h4] at m3 e4
  rw [← h3] at e3
  obtain ⟨e2, m2⟩ := rNum_inv r2.2 e3
  rw [h3] at m2
  rw [← h2] at e2
  obtain ⟨e1, m1⟩ := rText_inv r1.2 e2
  rw [h2] at m1
  rw [← h1] at e1
  obtain ⟨_, m0⟩ := rText_inv (m, 0, 0) e1
  rw [h1] at m0
  refine ⟨r1.1, r2.1, r3.1.toNat, r4.1.toNat, ?_, ?_, ?_⟩
  · rw [hR, Int.toNat_of_nonneg (by omega), Int.toNat_of_nonneg (by omega)]
  · rw [Int.toNat_of_nonneg (by omega), Int.toNat_of_nonneg (by omega)]
    exact hck
  · show m = _
    have m0' : m = enc r1.1.length ++ r1.1 ++ r1.2.1 := m0
    rw [m0', m1, m2, m3, e4.2, midL]
    simp only [List.append_assoc, List.append_nil]

theorem decV_canon (l : List UInt8) (h : (decV l).2 = 0) : ∃ c d z e, decV l = ((c, d, ((z : Nat) : Int), ((e : Nat) : Int)), 0) ∧ checkI c.length d.length z e = 0 ∧ l = encL c d z e := by
  unfold decV at h ⊢
  by_cases h1 : 4200 < l.length
  · rw [if_pos h1] at h; cases h
  rw [if_neg h1] at h ⊢
  by_cases h2 : isImg l = false
  · rw [if_pos h2] at h; cases h
  rw [if_neg h2] at h ⊢
  by_cases h3 : l.length < 12
  · rw [if_pos h3] at h; cases h
  rw [if_neg h3] at h ⊢
  by_cases h4 : chk8 (l.take (l.length - 8)) ≠ l.drop (l.length - 8)
  · rw [if_pos h4] at h; cases h
  rw [if_neg h4] at h ⊢
  obtain ⟨c, d, z, e, hr, hk, hm⟩ := readI_canon _ h
  refine ⟨c, d, z, e, hr, hk, ?_⟩
  have h2' : l.take 4 = magic := by
    have : isImg l = true := by simpa using h2
    unfold isImg at this
    simpa using this
  have h4' : chk8 (l.take (l.length - 8)) = l.drop (l.length - 8) := by
    by_cases h : chk8 (l.take (l.length - 8)) = l.drop (l.length - 8)
    · exact h
    · exact absurd h h4
  have hb : l.take (l.length - 8) = bodyL c d z e := by
    rw [bodyL, ← hm, ← h2']
    have : l.take 4 = (l.take (l.length - 8)).take 4 := by rw [List.take_take]; congr 1; omega
    rw [this, List.take_append_drop]
  rw [encL, ← hb, h4', List.take_append_drop]
theorem encL_inj {c d c' d' : List UInt8} {z e z' e' : Nat} (h : checkI c.length d.length z e = 0) (h' : checkI c'.length d'.length z' e' = 0) (he : encL c d z e = encL c' d' z' e') : c = c' ∧ d = d' ∧ z = z' ∧ e = e' := by
  have h1 := decV_enc c d z e h
  rw [he, decV_enc c' d' z' e' h'] at h1
  simp only [Prod.mk.injEq] at h1
  refine ⟨h1.1.1.symm, h1.1.2.1.symm, ?_, ?_⟩
  · omega
  · omega
theorem decV_range (l : List UInt8) : 0 ≤ (decV l).2 ∧ (decV l).2 ≤ 27 := by
  unfold decV
  split
  · decide
  · split
    · decide
    · split
      · decide
      · split
        · decide
        · unfold readI
          simp only
          split <;> exact ⟨by simp only; omega, by simp only; omega⟩
end Go.Proofs.YtfdcmjjafngonaaDoor
