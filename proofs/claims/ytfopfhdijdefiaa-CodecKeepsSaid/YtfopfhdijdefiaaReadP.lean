/- Plain laws of reading and writing: what is read without an error is written again as the same bytes. -/
import Derived.Test.YtfopfhdijdefiaaReadC
import Derived.Test.YtfopfhdijdefiaaCodecR
namespace Go.Proofs.Ytfopfhdijdefiaa

theorem pn_ok (l : List UInt8) (m : Nat) (hm : m ≤ 10) (h : (pn l m).2.2 = 0) : enc (pn l m).1 = l.take (pn l m).2.1 ∧ (pn l m).2.1 ≤ l.length := by
  rcases pn_cases l m hm with (h' | h') | ⟨k, h0, h1, h2, h3, _, h5, h'⟩
  · rw [h'] at h; simp at h
  · rw [h'] at h; simp at h
  · rw [h']
    exact ⟨enc_val l m k h0 hm h1 h2 h3 h5, h2⟩

theorem zig_unzig (u : Nat) : zig (unzig u) = u := by
  unfold zig unzig
  split
  · rw [if_pos (by omega)]; omega
  · rw [if_neg (by omega)]; omega

theorem unzig_zig (n : Int) : unzig (zig n) = n := by
  unfold zig unzig
  repeat' split
  all_goals omega

theorem unzig_range (u : Nat) (h : u < 18446744073709551616) : -9223372036854775808 ≤ unzig u ∧ unzig u ≤ 9223372036854775807 := by
  unfold unzig
  split <;> omega

theorem rStep_ok {α : Type} (zero : α) (parse : List UInt8 → α × Nat × Int) (l : List UInt8) (p : Nat) (h : (rStep zero parse (l, p, 0)).2.2.2 = 0) :
    (parse l).2.2 = 0 ∧ (rStep zero parse (l, p, 0)).1 = (parse l).1 ∧ (rStep zero parse (l, p, 0)).2 = (l.drop (parse l).2.1, p + (parse l).2.1, 0) := by
  unfold rStep at *
  simp only [ne_eq, not_true_eq_false, if_false] at *
  by_cases he : (parse l).2.2 = 0
  · simp [he]
  · rw [if_pos he] at h
    exact absurd h he

theorem rStep_bad {α : Type} (zero : α) (parse : List UInt8 → α × Nat × Int) (st : RSt) (h : st.2.2 ≠ 0) : rStep zero parse st = (zero, st) := by
  unfold rStep
  rw [if_pos h]

theorem rV_bad (st : RSt) (v : VV) (h : st.2.2 ≠ 0) : (rV st v).2 = st := by
  unfold rV
  repeat' split
  all_goals simp only [rStep_bad _ _ st h]

theorem readL_bad (st : RSt) (l : List VV) (h : st.2.2 ≠ 0) : (readL st l).2 = st := by
  induction l with
  | nil => rfl
  | cons v l ih => simp only [readL]; rw [rV_bad st v h]; exact ih

theorem rV0 (st : RSt) (v : VV) (h : v.kind % 4 = 0) : rV st v = ({ kind := v.kind, n := (rStep 0 (pNumber v.most) st).1, is := false, s := ⟨#[]⟩, most := v.most }, (rStep 0 (pNumber v.most) st).2) := by unfold rV; rw [if_pos h]
theorem rV1 (st : RSt) (v : VV) (h : v.kind % 4 = 1) : rV st v = ({ kind := v.kind, n := (rStep 0 pSigned st).1, is := false, s := ⟨#[]⟩, most := v.most }, (rStep 0 pSigned st).2) := by unfold rV; rw [if_neg (by omega), if_pos h]
theorem rV2 (st : RSt) (v : VV) (h : v.kind % 4 = 2) : rV st v = ({ kind := v.kind, n := 0, is := (rStep false pFlag st).1, s := ⟨#[]⟩, most := v.most }, (rStep false pFlag st).2) := by unfold rV; rw [if_neg (by omega), if_neg (by omega), if_pos h]
theorem rV3 (st : RSt) (v : VV) (h : v.kind % 4 = 3) : rV st v = ({ kind := v.kind, n := 0, is := false, s := ⟨(rStep [] (pText v.most) st).1.toArray⟩, most := v.most }, (rStep [] (pText v.most) st).2) := by unfold rV; rw [if_neg (by omega), if_neg (by omega), if_neg (by omega)]

/-- One value that was read without an error is written as the bytes that it was read from. -/
theorem rV_wV (l : List UInt8) (p : Nat) (v : VV) (X : List UInt8) (h : (rV (l, p, 0) v).2.2.2 = 0) :
    ∃ k, k ≤ l.length ∧ (rV (l, p, 0) v).2 = (l.drop k, p + k, 0) ∧ wV (X, 0) (rV (l, p, 0) v).1 = (X ++ l.take k, 0) := by
  have hcase : v.kind % 4 = 0 ∨ v.kind % 4 = 1 ∨ v.kind % 4 = 2 ∨ v.kind % 4 = 3 := by omega
  rcases hcase with h0 | h0 | h0 | h0
  · rw [rV0 _ _ h0] at h ⊢
    obtain ⟨e1, e2, e3⟩ := rStep_ok _ _ _ _ h
    refine ⟨_, pNumber_size v.most l, e3, ?_⟩
    rw [e2]
    have e4 : (pn l 9).2.2 = 0 := by
      simp only [pNumber] at e1
      split at e1
      · simp at e1
      · omega
    obtain ⟨e5, _⟩ := pn_ok l 9 (by omega) e4
    refine (wV_num X _ (pn l 9).1 (by exact h0) (by rfl)).trans ?_
    rw [e5]
    rfl
  · rw [rV1 _ _ h0] at h ⊢
    obtain ⟨e1, e2, e3⟩ := rStep_ok _ _ _ _ h
    refine ⟨_, pSigned_size l, e3, ?_⟩
    rw [e2]
    have e4 : (pn l 10).2.2 = 0 := by simp only [pSigned] at e1; omega
    obtain ⟨e5, _⟩ := pn_ok l 10 (by omega) e4
    refine (wV_sig X _ (by exact h0)).trans ?_
    simp only [pSigned, zig_unzig, e5]
  · rw [rV2 _ _ h0] at h ⊢
    obtain ⟨e1, e2, e3⟩ := rStep_ok _ _ _ _ h
    refine ⟨_, pFlag_size l, e3, ?_⟩
    rw [e2]
    refine (wV_flag X _ (by exact h0)).trans ?_
    cases l with
    | nil => simp [pFlag] at e1
    | cons x l =>
      have hx : ¬ 1 < x.toNat := fun hx => by simp [pFlag, hx] at e1
      have : x.toNat = 0 ∨ x.toNat = 1 := by omega
      rcases this with h5 | h5
      · have : x = 0 := UInt8.toNat_inj.1 h5
        subst this
        rw [show pFlag (0 :: l) = (false, 1, 0) by simp [pFlag]]
        rfl
      · have : x = 1 := UInt8.toNat_inj.1 h5
        subst this
        rw [show pFlag (1 :: l) = (true, 1, 0) by simp [pFlag]]
        rfl
  · rw [rV3 _ _ h0] at h ⊢
    obtain ⟨e1, e2, e3⟩ := rStep_ok _ _ _ _ h
    refine ⟨_, pText_size v.most l, e3, ?_⟩
    rw [e2]
    unfold pText at e1 ⊢
    by_cases f1 : (pn l 9).2.2 ≠ 0
    · rw [if_pos f1] at e1; simp only at e1; omega
    · rw [if_neg f1] at e1 ⊢
      by_cases f2 : v.most < ((pn l 9).1 : Int) ∨ 16777216 < (pn l 9).1
      · rw [if_pos f2] at e1; simp at e1
      · rw [if_neg f2] at e1 ⊢
        by_cases f3 : l.length < (pn l 9).2.1 + (pn l 9).1
        · rw [if_pos f3] at e1; simp at e1
        · rw [if_neg f3]
          obtain ⟨e5, e6⟩ := pn_ok l 9 (by omega) (by omega)
          have hsz : ((⟨((l.drop (pn l 9).2.1).take (pn l 9).1).toArray⟩ : ByteArray)).size = (pn l 9).1 := by
            simp [ByteArray.size]
            omega
          refine (wV_text X _ (by exact h0) (by simp only; rw [hsz]; omega)).trans ?_
          simp only [textL, hsz, strL]
          rw [e5, ← List.take_add]

theorem readL_writeL : ∀ (L : List VV) (l : List UInt8) (p : Nat) (X : List UInt8), (readL (l, p, 0) L).2.2.2 = 0 →
    ∃ k, k ≤ l.length ∧ (readL (l, p, 0) L).2 = (l.drop k, p + k, 0) ∧ writeL (X, 0) (readL (l, p, 0) L).1 = (X ++ l.take k, 0)
  | [], l, p, X, _ => ⟨0, Nat.zero_le _, by simp [readL], by simp [readL, writeL]⟩
  | v :: L, l, p, X, h => by
    simp only [readL] at h
    have hv : (rV (l, p, 0) v).2.2.2 = 0 := by
      by_cases hv : (rV (l, p, 0) v).2.2.2 = 0
      · exact hv
      · rw [readL_bad _ L hv] at h
        exact absurd h hv
    obtain ⟨k1, h1, h2, h3⟩ := rV_wV l p v X hv
    rw [h2] at h
    obtain ⟨k2, h4, h5, h6⟩ := readL_writeL L (l.drop k1) (p + k1) (X ++ l.take k1) h
    refine ⟨k1 + k2, by simp at h4; omega, ?_, ?_⟩
    · simp only [readL]
      rw [h2, h5, List.drop_drop]
      simp [Nat.add_assoc]
    · simp only [readL, writeL, List.foldl_cons] at h6 ⊢
      rw [h3, h2, h6]
      rw [List.append_assoc, ← List.take_add]

theorem rV_okn (st : RSt) (v : VV) (B : Nat) (hv : v.ok) (hB : st.1.length ≤ B) (hB2 : B ≤ 9223372036854775807) : (rV st v).1.ok ∧ (rV st v).1.s.size ≤ B ∧ (rV st v).2.1.length ≤ B := by
  have key : ∀ {α : Type} (zero : α) (parse : List UInt8 → α × Nat × Int), ((rStep zero parse st).1 = zero ∨ (rStep zero parse st).1 = (parse st.1).1) ∧ (rStep zero parse st).2.1.length ≤ B := by
    intro α zero parse
    unfold rStep
    repeat' split
    all_goals simp
    all_goals omega
  unfold rV
  repeat' split
  · have h1 := key 0 (pNumber v.most)
    have h9 := pn_lt9 st.1
    refine ⟨⟨hv.kind, ?_, ?_, by simp [ByteArray.size], hv.m1, hv.m2⟩, by simp [ByteArray.size], h1.2⟩
    · rcases h1.1 with h | h <;> simp only [h, pNumber] <;> omega
    · rcases h1.1 with h | h <;> simp only [h, pNumber] <;> omega
  · have h1 := key 0 pSigned
    have h9 := unzig_range _ (pn_lt st.1 10 (by omega))
    refine ⟨⟨hv.kind, ?_, ?_, by simp [ByteArray.size], hv.m1, hv.m2⟩, by simp [ByteArray.size], h1.2⟩
    · rcases h1.1 with h | h <;> simp only [h, pSigned] <;> omega
    · rcases h1.1 with h | h <;> simp only [h, pSigned] <;> omega
  · have h1 := key false pFlag
    exact ⟨⟨hv.kind, by simp, by simp, by simp [ByteArray.size], hv.m1, hv.m2⟩, by simp [ByteArray.size], h1.2⟩
  · have h1 := key [] (pText v.most)
    have hl : (rStep [] (pText v.most) st).1.length ≤ B := by
      rcases h1.1 with h | h
      · rw [h]; simp
      · rw [h]
        unfold pText
        repeat' split
        all_goals simp
        all_goals omega
    have hs : ((⟨(rStep [] (pText v.most) st).1.toArray⟩ : ByteArray)).size ≤ B := by simpa [ByteArray.size] using hl
    exact ⟨⟨hv.kind, by simp, by simp, by simp only; omega, hv.m1, hv.m2⟩, hs, h1.2⟩

theorem readL_ok (B : Nat) (hB2 : B ≤ 9223372036854775807) : ∀ (L : List VV) (st : RSt), (∀ v ∈ L, v.ok) → st.1.length ≤ B → ∀ v ∈ (readL st L).1, v.ok ∧ v.s.size ≤ B
  | [], st, _, _ => by simp [readL]
  | x :: L, st, hok, hB => by
    obtain ⟨h1, h2, h3⟩ := rV_okn st x B (hok x (List.mem_cons_self ..)) hB hB2
    intro v hv
    simp only [readL, List.mem_cons] at hv
    rcases hv with rfl | hv
    · exact ⟨h1, h2⟩
    · exact readL_ok B hB2 L (rV st x).2 (fun v hv => hok v (List.mem_cons_of_mem _ hv)) h3 v hv
end Go.Proofs.Ytfopfhdijdefiaa
