/- What closes without an error is an encoding: plain. -/
import Derived.Test.YtejajafbopabmaaDoorBlkK
namespace Go.Proofs.YtejajafbopabmaaDoor

theorem pn_back (l : List UInt8) (h : (pn l 9).2.2 = 0) : enc (pn l 9).1 = l.take (pn l 9).2.1 ∧ (pn l 9).2.1 ≤ l.length := by
  rcases pn_cases l 9 (by omega) with (h' | h') | ⟨k, h0, h1, h2, h3, _, h5, h'⟩
  · rw [h'] at h; simp at h
  · rw [h'] at h; simp at h
  · rw [h']
    exact ⟨enc_val l 9 k h0 (by omega) h1 h2 h3 h5, h2⟩

theorem rStep_err0 {α : Type} (zero : α) (parse : List UInt8 → α × Nat × Int) (st : List UInt8 × Nat × Int) (h : (rStep zero parse st).2.2.2 = 0) : st.2.2 = 0 := by
  by_cases e : st.2.2 = 0
  · exact e
  · unfold rStep at h
    rw [if_pos e] at h
    exact h

theorem rStep_fine {α : Type} (zero : α) (parse : List UInt8 → α × Nat × Int) (st : List UInt8 × Nat × Int) (h : (rStep zero parse st).2.2.2 = 0) :
    (parse st.1).2.2 = 0 ∧ (rStep zero parse st).2.1 = st.1.drop (parse st.1).2.1 := by
  have e := rStep_err0 zero parse st h
  unfold rStep at *
  rw [if_neg (by simpa using e)] at *
  by_cases he : (parse st.1).2.2 = 0
  · rw [if_neg (by simpa using he)]
    exact ⟨he, rfl⟩
  · rw [if_pos he] at h
    exact absurd h he

theorem num_step (most : Nat) (st : List UInt8 × Nat × Int) (h : (rStep 0 (pNumber (most : Int)) st).2.2.2 = 0) : ∃ u, u ≤ most ∧ st.1 = enc u ++ (rStep 0 (pNumber (most : Int)) st).2.1 := by
  obtain ⟨h1, h2⟩ := rStep_fine _ _ _ h
  rw [h2]
  unfold pNumber at h1 ⊢
  simp only at h1 ⊢
  by_cases hc : (pn st.1 9).2.2 = 0 ∧ (most : Int) < ((pn st.1 9).1 : Int)
  · rw [if_pos hc] at h1
    cases h1
  · rw [if_neg hc] at h1
    have h0 : (pn st.1 9).2.2 = 0 := by omega
    obtain ⟨h3, _⟩ := pn_back st.1 h0
    refine ⟨(pn st.1 9).1, ?_, ?_⟩
    · have : ¬ (most : Int) < ((pn st.1 9).1 : Int) := fun x => hc ⟨h0, x⟩
      omega
    · rw [h3, List.take_append_drop]

theorem text_step (st : List UInt8 × Nat × Int) (h : (rStep [] (pText 65536) st).2.2.2 = 0) : ∃ B : List UInt8, B.length ≤ 65536 ∧ st.1 = enc B.length ++ (B ++ (rStep [] (pText 65536) st).2.1) := by
  obtain ⟨h1, h2⟩ := rStep_fine _ _ _ h
  rw [h2]
  unfold pText at h1 ⊢
  by_cases a : (pn st.1 9).2.2 ≠ 0
  · rw [if_pos a] at h1
    have h1' : (((pn st.1 9).2.2 : Nat) : Int) = 0 := h1
    omega
  · rw [if_neg a] at h1 ⊢
    by_cases b : (65536 : Int) < ((pn st.1 9).1 : Int) ∨ 16777216 < (pn st.1 9).1
    · rw [if_pos b] at h1; cases h1
    · rw [if_neg b] at h1 ⊢
      by_cases c : st.1.length < (pn st.1 9).2.1 + (pn st.1 9).1
      · rw [if_pos c] at h1; cases h1
      · rw [if_neg c]
        obtain ⟨h3, h4⟩ := pn_back st.1 (by omega)
        have hl : ((st.1.drop (pn st.1 9).2.1).take (pn st.1 9).1).length = (pn st.1 9).1 := by rw [List.length_take, List.length_drop]; omega
        refine ⟨(st.1.drop (pn st.1 9).2.1).take (pn st.1 9).1, by omega, ?_⟩
        rw [hl, h3]
        simp only
        rw [show st.1.drop ((pn st.1 9).2.1 + (pn st.1 9).1) = (st.1.drop (pn st.1 9).2.1).drop (pn st.1 9).1 by rw [List.drop_drop], List.take_append_drop, List.take_append_drop]

theorem close_enc (l : List UInt8) (h : closeE (rs3 l).2 = 0) : ∃ f n B, l = encB f n B ∧ f ≤ 1073741824 ∧ n ≤ 65536 ∧ B.length ≤ 65536 := by
  have h3 : (rs3 l).2.2.2 = 0 := by
    unfold closeE at h
    by_cases e : (rs3 l).2.2.2 = 0
    · exact e
    · rw [if_neg e] at h; exact h
  have hr : (rs3 l).2.1 = [] := by
    unfold closeE at h
    rw [if_pos h3] at h
    by_cases e : 0 < (rs3 l).2.1.length
    · rw [if_pos e] at h; cases h
    · exact List.eq_nil_of_length_eq_zero (by omega)
  have h2 : (rs2 l).2.2.2 = 0 := rStep_err0 [] (pText 65536) _ h3
  have h1 : (rs1 l).2.2.2 = 0 := rStep_err0 0 (pNumber 65536) _ h2
  obtain ⟨f, hf, e1⟩ := num_step 1073741824 (l, 0, 0) h1
  obtain ⟨n, hn, e2⟩ := num_step 65536 ((rs1 l).2.1, (rs1 l).2.2.1, (rs1 l).2.2.2) h2
  obtain ⟨B, hB, e3⟩ := text_step ((rs2 l).2.1, (rs2 l).2.2.1, (rs2 l).2.2.2) h3
  have e1' : l = enc f ++ (rs1 l).2.1 := e1
  have e2' : (rs1 l).2.1 = enc n ++ (rs2 l).2.1 := e2
  have e3' : (rs2 l).2.1 = enc B.length ++ (B ++ (rs3 l).2.1) := e3
  refine ⟨f, n, B, ?_, hf, hn, hB⟩
  rw [hr, List.append_nil] at e3'
  unfold encB
  rw [List.append_assoc, ← e3', ← e2', ← e1']
end Go.Proofs.YtejajafbopabmaaDoor
