/- State: object.Decode's contract, and what state.Decode reads, plain. -/
import Derived.Test.YtpnchdgplpdefaaGreatDoorEnSci
import Derived.Test.YtpnchdgplpdefaaGreatDoorEnSbJ
import Derived.Test.YtpnchdgplpdefaaGreatDoorEnGwE
import Derived.Test.YtpnchdgplpdefaaGreatDoorEnSbC
namespace Go.Proofs.YtpnchdgplpdefaaGreatDoor
open Go.RowKit Go.Shelf
theorem pn_okN (l : List UInt8) (m : Nat) (hm : m ≤ 10) (h : (pn l m).2.2 = 0) : enc (pn l m).1 = l.take (pn l m).2.1 ∧ (pn l m).2.1 ≤ l.length := by
 rcases pn_cases l m hm with (h' | h') | ⟨k, h0, h1, h2, h3, _, h5, h'⟩
 ·rw [h'] at h; simp at h
 ·rw [h'] at h; simp at h
 ·rw [h']
  exact ⟨enc_val l m k h0 hm h1 h2 h3 h5, h2⟩
theorem rStep_stuckN {α : Type} (zero : α) (parse : List UInt8 → α × Nat × Int) (st : List UInt8 × Nat × Int) (h : st.2.2 ≠ 0) : (rStep zero parse st).2 = st := by
 unfold rStep
 rw [if_pos h]
theorem rText_invN (most : Int) (st : List UInt8 × Nat × Int) (h : (rStep [] (pText most) st).2.2.2 = 0) : st.2.2 = 0 ∧ st.1 = textB (rStep [] (pText most) st).1 ++ (rStep [] (pText most) st).2.1 := by
 by_cases h0 : st.2.2 = 0
 ·refine ⟨h0, ?_⟩
  unfold rStep at h ⊢
  rw [if_neg (by omega)] at h ⊢
  by_cases h1 : (pText most st.1).2.2 = 0
  ·rw [if_neg (by omega)]
   simp only
   unfold pText at h1 ⊢
   by_cases h2 : (pn st.1 9).2.2 ≠ 0
   ·rw [if_pos h2] at h1
    simp only at h1
    omega
   rw [if_neg h2] at h1 ⊢
   by_cases h3 : most < ((pn st.1 9).1 : Int) ∨ 16777216 < (pn st.1 9).1
   ·rw [if_pos h3] at h1
    cases h1
   rw [if_neg h3] at h1 ⊢
   by_cases h4 : st.1.length < (pn st.1 9).2.1 + (pn st.1 9).1
   ·rw [if_pos h4] at h1
    cases h1
   rw [if_neg h4]
   simp only [textB]
   obtain ⟨he, hk⟩ := pn_okN st.1 9 (by omega) (by omega)
   generalize (pn st.1 9).2.1 = k at *
   generalize (pn st.1 9).1 = n at *
   have hl : ((st.1.drop k).take n).length = n := by rw [List.length_take, List.length_drop]; omega
   rw [hl, he, List.append_assoc, ← List.drop_drop, List.take_append_drop, List.take_append_drop]
  ·rw [if_pos h1] at h
   exact absurd h h1
 ·rw [rStep_stuckN _ _ _ h0] at h
  exact absurd h h0
theorem rNum_invN (most : Int) (st : List UInt8 × Nat × Int) (h : (rStep 0 (pNumber most) st).2.2.2 = 0) : st.2.2 = 0 ∧ st.1 = enc (rStep 0 (pNumber most) st).1.toNat ++ (rStep 0 (pNumber most) st).2.1 := by
 by_cases h0 : st.2.2 = 0
 ·refine ⟨h0, ?_⟩
  unfold rStep at h ⊢
  rw [if_neg (by omega)] at h ⊢
  by_cases h1 : (pNumber most st.1).2.2 = 0
  ·rw [if_neg (by omega)]
   simp only
   unfold pNumber at h1 ⊢
   simp only at h1 ⊢
   have h2 : (pn st.1 9).2.2 = 0 := by
    split at h1
    ·omega
    ·omega
   obtain ⟨he, hk⟩ := pn_okN st.1 9 (by omega) h2
   rw [Int.toNat_natCast, he, List.take_append_drop]
  ·rw [if_pos h1] at h
   exact absurd h h1
 ·rw [rStep_stuckN _ _ _ h0] at h
  exact absurd h h0
theorem rStep_ofN {α : Type} (zero : α) (parse : List UInt8 → α × Nat × Int) (l : List UInt8) (p : Nat) (x : α) (k : Nat) (h : parse l = (x, k, 0)) : rStep zero parse (l, p, 0) = (x, (l.drop k, p + k, 0)) := by
 unfold rStep
 simp [h]
theorem rNum_enc (u : Nat) (most : Int) (hu : u < 9223372036854775808) (hm : (u : Int) ≤ most) (r : List UInt8) (p : Nat) : rStep 0 (pNumber most) (enc u ++ r, p, 0) = ((u : Int), (r, p + (enc u).length, 0)) := by
 have h : pNumber most (enc u ++ r) = ((u : Int), (enc u).length, 0) := by
  unfold pNumber
  rw [pn_enc9 u r hu]
  simp only [true_and]
  rw [if_neg (by omega)]
  rfl
 rw [rStep_ofN 0 (pNumber most) _ p _ _ h, List.drop_left]
theorem rText_enc (s : List UInt8) (most : Int) (h1 : (s.length : Int) ≤ most) (h2 : s.length ≤ 16777216) (r : List UInt8) (p : Nat) : rStep [] (pText most) (textB s ++ r, p, 0) = (s, (r, p + (textB s).length, 0)) := by
 have h : pText most (textB s ++ r) = (s, (textB s).length, 0) := by
  unfold pText textB
  rw [List.append_assoc, pn_enc9 s.length (s ++ r) (by omega)]
  simp only [ne_eq, not_true_eq_false, if_false]
  rw [if_neg (by omega), if_neg (by simp only [List.length_append]; omega), List.drop_left, List.take_left, List.length_append]
 rw [rStep_ofN [] (pText most) _ p _ _ h, List.drop_left]
theorem strL_mk' (l : List UInt8) : strL ⟨l.toArray⟩ = l := rfl
theorem closeN_zero {st : List UInt8 × Nat × Int} (h : closeN st = 0) : st.2.2 = 0 ∧ st.1 = [] := by
 unfold closeN at h
 split at h
 next h0 =>
  refine ⟨h0, ?_⟩
  split at h
  ·cases h
  ·exact List.eq_nil_of_length_eq_zero (by omega)
 next h0 => exact absurd h h0
theorem readN_inv {u : Usa} {l : List UInt8} (hu : usaL[(dst0 l).1.toNat]? = some u) (hc : closeN (readN u l).2 = 0) (ho : okNm (readN u l).1 = true) : nameL (readN u l).1 = l := by
 have hk := dst0_le l
 have hd0 : dst0 l = rStep 0 (pNumber 20) (l, 0, 0) := rfl
 obtain ⟨a0, h0⟩ : ∃ a, dst0 l = a := ⟨_, rfl⟩
 obtain ⟨a1, h1⟩ : ∃ a, dst1 u a0.2 = a := ⟨_, rfl⟩
 obtain ⟨a2, h2⟩ : ∃ a, dst2 u a1.2 = a := ⟨_, rfl⟩
 obtain ⟨a3, h3⟩ : ∃ a, dst3 u a2.2 = a := ⟨_, rfl⟩
 obtain ⟨a4, h4⟩ : ∃ a, dst4 u a3.2 = a := ⟨_, rfl⟩
 have hr : readN u l = (⟨a0.1, ⟨a1.1.toArray⟩, a2.1, a3.1, ⟨a4.1.toArray⟩⟩, a4.2) := by rw [readN, h0, h1, h2, h3, h4]
 rw [hr] at hc ho ⊢
 rw [h0] at hu hk hd0
 simp only at hc
 obtain ⟨e4, r4⟩ := closeN_zero hc
 have hus : okUs u ⟨a0.1, ⟨a1.1.toArray⟩, a2.1, a3.1, ⟨a4.1.toArray⟩⟩ = true := by
  obtain ⟨_, u', hu', h⟩ := okNm_us ho
  simp only at hu'
  rw [hu] at hu'
  cases hu'
  exact h
 rw [nameL_of (u := u) hu]
 -- backwards
 have s4 : a3.2.2.2 = 0 ∧ a3.2.1 = (if u.text then textB a4.1 else []) ++ a4.2.1 := by
  rw [← h4] at e4 ⊢
  unfold dst4 at e4 ⊢
  split
  next ht => rw [if_pos ht] at e4; exact rText_invN 32 a3.2 e4
  next ht => rw [if_neg ht] at e4; exact ⟨e4, rfl⟩
 have s3 : a2.2.2.2 = 0 ∧ a2.2.1 = (if u.index then enc a3.1.toNat else []) ++ a3.2.1 := by
  have e3 := s4.1
  rw [← h3] at e3 ⊢
  unfold dst3 at e3 ⊢
  split
  next ht => rw [if_pos ht] at e3; exact rNum_invN u.most a2.2 e3
  next ht => rw [if_neg ht] at e3; exact ⟨e3, rfl⟩
 have s2 : a1.2.2.2 = 0 ∧ a1.2.1 = (if u.number then enc a2.1.toNat else []) ++ a2.2.1 := by
  have e2 := s3.1
  rw [← h2] at e2 ⊢
  unfold dst2 at e2 ⊢
  split
  next ht => rw [if_pos ht] at e2; exact rNum_invN 1073741824 a1.2 e2
  next ht => rw [if_neg ht] at e2; exact ⟨e2, rfl⟩
 have s1 : a0.2.2.2 = 0 ∧ a0.2.1 = (if u.owner then textB a1.1 else []) ++ a1.2.1 := by
  have e1 := s2.1
  rw [← h1] at e1 ⊢
  unfold dst1 at e1 ⊢
  split
  next ht => rw [if_pos ht] at e1; exact rText_invN 16777216 a0.2 e1
  next ht => rw [if_neg ht] at e1; exact ⟨e1, rfl⟩
 have s0 := rNum_invN 20 (l, 0, 0) (by rw [← hd0]; exact s1.1)
 rw [← hd0] at s0
 have e := s0.2
 simp only at e
 rw [e, s1.2, s2.2, s3.2, s4.2, r4, List.append_nil]
 rfl
theorem okUs_text {u : Usa} {n : NameV} (h : okUs u n = true) (ht : u.text = true) : n.text.size ≤ 32 := by
 simp only [okUs, Bool.and_eq_true, Bool.or_eq_true, Bool.not_eq_true'] at h
 rcases h.2 with h | h
 ·rw [ht] at h; cases h
 ·simp only [wordO, Bool.and_eq_true, decide_eq_true_eq] at h
  exact h.1.2
theorem readN_enc {m : NameV} (ho : okNm m = true) (hs : m.owner.size ≤ 16777216) : ∃ u, usaL[(dst0 (nameL m)).1.toNat]? = some u ∧ closeN (readN u (nameL m)).2 = 0 ∧ (readN u (nameL m)).1 = m := by
 obtain ⟨hk, u, hu, hus⟩ := okNm_us ho
 have hp := okUs_parts hus
 have hm := most_le hu
 rw [nameL_of hu]
 have ht := @okUs_text u m hus
 obtain ⟨k, o, n, i, t⟩ := m
 obtain ⟨wd, bo, bn, bi, bt, mo⟩ := u
 obtain ⟨kk, rfl⟩ : ∃ q : Nat, k = (q : Int) := ⟨k.toNat, by simp only at hk; omega⟩
 simp only at hk hs hm ht hu
 simp only [nameU]
 rw [Int.toNat_natCast] at hu ⊢
 have d0 : ∀ r, dst0 (enc kk ++ r) = ((kk : Int), (r, (enc kk).length, 0)) := fun r => by
  unfold dst0
  rw [rNum_enc kk 20 (by omega) (by omega) r 0, Nat.zero_add]
 refine ⟨⟨wd, bo, bn, bi, bt, mo⟩, by rw [d0, Int.toNat_natCast]; exact hu, ?_⟩
 obtain ⟨R4, hR4⟩ : ∃ R, (if bt = true then textB (strL t) else []) = R := ⟨_, rfl⟩
 obtain ⟨R3, hR3⟩ : ∃ R, (if bi = true then enc i.toNat else []) ++ R4 = R := ⟨_, rfl⟩
 obtain ⟨R2, hR2⟩ : ∃ R, (if bn = true then enc n.toNat else []) ++ R3 = R := ⟨_, rfl⟩
 obtain ⟨R1, hR1⟩ : ∃ R, (if bo = true then textB (strL o) else []) ++ R2 = R := ⟨_, rfl⟩
 rw [hR4, hR3, hR2, hR1]
 have d1 : ∀ p, ∃ p', dst1 ⟨wd, bo, bn, bi, bt, mo⟩ (R1, p, 0) = (strL o, (R2, p', 0)) := fun p => by
  rw [← hR1]
  unfold dst1
  cases bo
  ·have e := hp.o0 rfl
   simp only at e
   exact ⟨p, by rw [e]; rfl⟩
  ·exact ⟨_, rText_enc (strL o) 16777216 (by rw [strL_length]; omega) (by rw [strL_length]; omega) R2 p⟩
 have d2 : ∀ p, ∃ p', dst2 ⟨wd, bo, bn, bi, bt, mo⟩ (R2, p, 0) = (n, (R3, p', 0)) := fun p => by
  rw [← hR2]
  unfold dst2
  cases bn
  ·have e := hp.n0 rfl
   simp only at e
   exact ⟨p, by rw [e]; rfl⟩
  ·have e := hp.n1 rfl
   simp only at e
   have h := rNum_enc n.toNat 1073741824 (by omega) (by omega) R3 p
   rw [Int.toNat_of_nonneg e.1] at h
   exact ⟨_, h⟩
 have d3 : ∀ p, ∃ p', dst3 ⟨wd, bo, bn, bi, bt, mo⟩ (R3, p, 0) = (i, (R4, p', 0)) := fun p => by
  rw [← hR3]
  unfold dst3
  cases bi
  ·have e := hp.i0 rfl
   simp only at e
   exact ⟨p, by rw [e]; rfl⟩
  ·have e := hp.i1 rfl
   simp only at e
   have h := rNum_enc i.toNat mo (by omega) (by omega) R4 p
   rw [Int.toNat_of_nonneg e.1] at h
   exact ⟨_, h⟩
 have d4 : ∀ p, ∃ p', dst4 ⟨wd, bo, bn, bi, bt, mo⟩ (R4, p, 0) = (strL t, ([], p', 0)) := fun p => by
  rw [← hR4]
  unfold dst4
  cases bt
  ·have e := hp.t0 rfl
   simp only at e
   exact ⟨p, by rw [e]; rfl⟩
  ·have e := ht rfl
   have h := rText_enc (strL t) 32 (by rw [strL_length]; omega) (by rw [strL_length]; omega) [] p
   rw [List.append_nil] at h
   exact ⟨_, h⟩
 obtain ⟨p1, e1⟩ := d1 (enc kk).length
 obtain ⟨p2, e2⟩ := d2 p1
 obtain ⟨p3, e3⟩ := d3 p2
 obtain ⟨p4, e4⟩ := d4 p3
 have hr : readN ⟨wd, bo, bn, bi, bt, mo⟩ (enc kk ++ R1) = (⟨(kk : Int), ⟨(strL o).toArray⟩, n, i, ⟨(strL t).toArray⟩⟩, ([], p4, 0)) := by
  rw [readN, d0]
  simp only [e1, e2, e3, e4]
 rw [hr]
 exact ⟨rfl, rfl⟩
def decN (l : List UInt8) : NameV × Int := match usaL[(dst0 l).1.toNat]? with
 | some u => if closeN (readN u l).2 = 0 ∧ okNm (readN u l).1 = true then ((readN u l).1, 0) else (⟨0, ByteArray.empty, 0, 0, ByteArray.empty⟩, 3)
 | none => (⟨0, ByteArray.empty, 0, 0, ByteArray.empty⟩, 3)
theorem dst0_row (l : List UInt8) : ∃ u, usaL[(dst0 l).1.toNat]? = some u := by
 have h := dst0_le l
 have hl : usaL.length = 21 := by decide
 exact ⟨_, List.getElem?_eq_getElem (show (dst0 l).1.toNat < usaL.length by omega)⟩
theorem decN_of {l : List UInt8} {u : Usa} (h : usaL[(dst0 l).1.toNat]? = some u) : decN l = if closeN (readN u l).2 = 0 ∧ okNm (readN u l).1 = true then ((readN u l).1, 0) else (⟨0, ByteArray.empty, 0, 0, ByteArray.empty⟩, 3) := by
 unfold decN
 rw [h]
theorem decN_enc {m : NameV} (ho : okNm m = true) (hs : m.owner.size ≤ 16777216) : decN (nameL m) = (m, 0) := by
 obtain ⟨u, hu, h1, h2⟩ := readN_enc ho hs
 rw [decN_of hu, h2, if_pos ⟨h1, ho⟩]
theorem decN_inv {l : List UInt8} (h : (decN l).2 = 0) : okNm (decN l).1 = true ∧ nameL (decN l).1 = l := by
 obtain ⟨u, hu⟩ := dst0_row l
 rw [decN_of hu] at h ⊢
 by_cases hc : closeN (readN u l).2 = 0 ∧ okNm (readN u l).1 = true
 ·rw [if_pos hc]
  exact ⟨hc.2, readN_inv hu hc.1 hc.2⟩
 ·rw [if_neg hc] at h
  cases h
theorem rText_len (most : Int) (st : List UInt8 × Nat × Int) : (rStep [] (pText most) st).1.length ≤ st.1.length := by
 unfold rStep
 split
 ·simp
 ·split
  ·simp
  next h =>
   simp only [pText]
   split
   ·simp
   ·split
    ·simp
    ·split
     ·simp
     ·simp only [List.length_take, List.length_drop]
      omega
theorem rText_rest (most : Int) (st : List UInt8 × Nat × Int) : (rStep [] (pText most) st).2.1.length ≤ st.1.length := by
 unfold rStep
 split
 ·simp
 ·split
  ·simp
  ·simp only [List.length_drop]; omega
theorem rNum_rest (most : Int) (st : List UInt8 × Nat × Int) : (rStep 0 (pNumber most) st).2.1.length ≤ st.1.length := by
 unfold rStep
 split
 ·simp
 ·split
  ·simp
  ·simp only [List.length_drop]; omega
theorem decN_small (l : List UInt8) : (decN l).1.owner.size ≤ l.length ∧ (decN l).1.text.size ≤ l.length := by
 obtain ⟨u, hu⟩ := dst0_row l
 rw [decN_of hu]
 split
 ·have h0 := rNum_rest 20 (l, 0, 0)
  have e0 : dst0 l = rStep 0 (pNumber 20) (l, 0, 0) := rfl
  rw [← e0] at h0
  simp only at h0
  have h1 : ∀ st, (dst1 u st).1.length ≤ st.1.length ∧ (dst1 u st).2.1.length ≤ st.1.length := fun st => by
   unfold dst1
   split
   ·exact ⟨rText_len _ _, rText_rest _ _⟩
   ·simp
  have h2 : ∀ st, (dst2 u st).2.1.length ≤ st.1.length := fun st => by
   unfold dst2
   split
   ·exact rNum_rest _ _
   ·simp
  have h3 : ∀ st, (dst3 u st).2.1.length ≤ st.1.length := fun st => by
   unfold dst3
   split
   ·exact rNum_rest _ _
   ·simp
  have h4 : ∀ st, (dst4 u st).1.length ≤ st.1.length := fun st => by
   unfold dst4
   split
   ·exact rText_len _ _
   ·simp
  simp only [readN, ByteArray.size, List.size_toArray]
  have a1 := h1 (dst0 l).2
  have a2 := h2 (dst1 u (dst0 l).2).2
  have a3 := h3 (dst2 u (dst1 u (dst0 l).2).2).2
  have a4 := h4 (dst3 u (dst2 u (dst1 u (dst0 l).2).2).2).2
  omega
 ·simp
end Go.Proofs.YtpnchdgplpdefaaGreatDoor
namespace Go.Proofs.YtpnchdgplpdefaaGreatDoor
open Go.RowKit Go.Shelf
def DistC (xs : List CV) : Prop := xs.Pairwise (fun a b => a.nm ≠ b.nm)
structure Picked (zs c : List CV) : Prop where
 dist : DistC c
 ok : ∀ z ∈ c, okNm z.nm = true
 of : ∀ z ∈ c, z ∈ zs
theorem DistC.at_ {c : List CV} (h : DistC c) {p q : Nat} {a b : CV} (hp : c[p]? = some a) (hq : c[q]? = some b) (hne : p ≠ q) : a.nm ≠ b.nm := by
 obtain ⟨h1, rfl⟩ := List.getElem?_eq_some_iff.1 hp
 obtain ⟨h2, rfl⟩ := List.getElem?_eq_some_iff.1 hq
 rcases Nat.lt_or_gt_of_ne hne with hl | hl
 ·exact List.pairwise_iff_getElem.1 h p q h1 h2 hl
 ·exact (List.pairwise_iff_getElem.1 h q p h2 h1 hl).symm
end Go.Proofs.YtpnchdgplpdefaaGreatDoor
namespace Go.Proofs.YtpnchdgplpdefaaGreatDoor
open Go.RowKit Go.Shelf
def NDecAny (w : World) (l : List UInt8) (e : Ending) (w' : World) : Prop := e = .returned (.tuple #[.agg (decN l).1.cells.toArray, .int .i64 (decN l).2]) ∧ Fr Nothing w w'
theorem NDec_any (s : ByteArray) (w : World) (hU : UsaT w) (hs : s.size ≤ 16777216) : Calls Tryz.prog 31 #[.string s] w (NDecAny w (strL s)) := by
 obtain ⟨u, hu⟩ := dst0_row (strL s)
 refine (NDec_walk s u w hU hs hu).mono ?_
 rintro e w' ⟨n, k, rfl, hf, h⟩
 unfold NDecAny
 rw [decN_of hu]
 rcases h with ⟨h1, h2, rfl, rfl⟩ | ⟨h, rfl, rfl⟩
 ·rw [if_pos ⟨h1, h2⟩]
  exact ⟨rfl, hf⟩
 ·rw [if_neg h]
  exact ⟨rfl, hf⟩
abbrev Rst := List UInt8 × Nat × Int
def txD (st : Rst) : List UInt8 × Rst := rStep [] (pText 65536) st
def decL : Nat → Rst → NameV → List Ent → Int × List Ent
 | 0, st, _, L => (closeN st, L)
 | n + 1, st, last, L =>
  if (txD st).2.2.2 ≠ 0 then ((txD st).2.2.2, []) else
  if (decN (txD st).1).2 ≠ 0 then ((decN (txD st).1).2, []) else
  if 0 < L.length ∧ cmpN (decN (txD st).1).1 last ≤ 0 then (32, []) else
  if (txD (txD st).2).2.2.2 ≠ 0 then ((txD (txD st).2).2.2.2, []) else
  decL n (txD (txD st).2).2 (decN (txD st).1).1 (L ++ [((decN (txD st).1).1, ⟨(txD (txD st).2).1.toArray⟩)])
def nmZ : NameV := ⟨0, ByteArray.empty, 0, 0, ByteArray.empty⟩
def decS (l : List UInt8) : Int × List Ent := decL (rStep 0 (pNumber 65536) (l, 0, 0)).1.toNat (rStep 0 (pNumber 65536) (l, 0, 0)).2 nmZ []
structure KInv (L : List Ent) (last : NameV) (st : Rst) : Prop where
 sort : SortL L
 ok : ∀ x ∈ L, okNm x.1 = true
 owner : ∀ x ∈ L, x.1.owner.size ≤ 70000
 text : ∀ x ∈ L, x.1.text.size ≤ 70000
 value : ∀ x ∈ L, x.2.size ≤ 70000
 len : 2 * L.length + st.1.length ≤ 70000
 bytes : bytesL L + st.1.length ≤ 70000
 last : L = [] ∨ ∃ M v, L = M ++ [(last, v)]
theorem KInv.nil {l : List UInt8} (h : l.length ≤ 70000) (st : Rst) (hs : st.1.length ≤ l.length) : KInv [] nmZ st :=
 ⟨List.Pairwise.nil, (fun _ h => by cases h), (fun _ h => by cases h), (fun _ h => by cases h), (fun _ h => by cases h), by simp; omega, by simp [bytesL]; omega, Or.inl rfl⟩
theorem KInv.good {L : List Ent} {last : NameV} {st : Rst} (h : KInv L last st) : GoodL L :=
 ⟨h.sort, fun x hx => by have := h.owner x hx; omega, by have := h.len; omega, by have := h.bytes; omega, h.ok⟩
theorem KInv.small {L : List Ent} {last : NameV} {st : Rst} (h : KInv L last st) : SmallE L :=
 ⟨h.ok, fun x hx => by have := h.owner x hx; omega, fun x hx => by have := h.text x hx; omega, fun x hx => by have := h.value x hx; omega, by have := h.len; omega⟩
theorem KInv.names {L : List Ent} {last : NameV} {st : Rst} (h : KInv L last st) : ∀ x ∈ L, GoodN x.1 := fun x hx => ⟨by have := h.owner x hx; omega, by have := h.text x hx; omega⟩
theorem textB_len (s : List UInt8) : s.length + 1 ≤ (textB s).length := by
 unfold textB
 have : 1 ≤ (enc s.length).length := encF_ne 9 _
 rw [List.length_append]; omega
theorem bytesL_app (A B : List Ent) : bytesL (A ++ B) = bytesL A + bytesL B := by simp [bytesL]
theorem sort_snoc {L : List Ent} {last m : NameV} (hs : SortL L) (hl : L = [] ∨ ∃ M v, L = M ++ [(last, v)]) (hc : ¬ (0 < L.length ∧ cmpN m last ≤ 0)) : ∀ y ∈ L, 0 < cmpN m y.1 := by
 rcases hl with rfl | ⟨M, u, rfl⟩
 ·intro y hy; cases hy
 ·have hp : 0 < cmpN m last := by
   by_cases h : 0 < cmpN m last
   ·exact h
   ·exact absurd ⟨by simp, by omega⟩ hc
  intro y hy
  rcases List.mem_append.1 hy with hy | hy
  ·have h1 := (SortL.parts hs).2.2.1 y hy
   exact cmpN_pos (cmpN_is.trans y.1 last m h1 (cmpN_neg hp))
  ·simp only [List.mem_singleton] at hy
   rw [hy]
   exact hp
theorem KInv.next {L : List Ent} {last : NameV} {st : Rst} (h : KInv L last st) (h1 : (decN (txD st).1).2 = 0) (h2 : ¬ (0 < L.length ∧ cmpN (decN (txD st).1).1 last ≤ 0)) (h3 : (txD (txD st).2).2.2.2 = 0) :
  KInv (L ++ [((decN (txD st).1).1, ⟨(txD (txD st).2).1.toArray⟩)]) (decN (txD st).1).1 (txD (txD st).2).2 ∧ insL (decN (txD st).1).1 ⟨(txD (txD st).2).1.toArray⟩ L = L ++ [((decN (txD st).1).1, ⟨(txD (txD st).2).1.toArray⟩)] ∧
  (txD st).2.2.2 = 0 ∧ st.2.2 = 0 ∧ st.1 = entB ((decN (txD st).1).1, ⟨(txD (txD st).2).1.toArray⟩) ++ (txD (txD st).2).2.1 := by
 have hgt := sort_snoc h.sort h.last h2
 obtain ⟨e1, s1⟩ := rText_invN 65536 (txD st).2 h3
 obtain ⟨e0, s0⟩ := rText_invN 65536 st e1
 obtain ⟨ok, hn⟩ := decN_inv h1
 have hsm := decN_small (txD st).1
 have hi : insL (decN (txD st).1).1 ⟨(txD (txD st).2).1.toArray⟩ L = L ++ [((decN (txD st).1).1, ⟨(txD (txD st).2).1.toArray⟩)] := by
  have := insL_gt (v := ⟨(txD (txD st).2).1.toArray⟩) L [] hgt
  rw [List.append_nil] at this
  rw [this]
  rfl
 have t0 : (txD st).1 = (rStep [] (pText 65536) st).1 := rfl
 have t1 : (txD st).2 = (rStep [] (pText 65536) st).2 := rfl
 have u0 : (txD (txD st).2).1 = (rStep [] (pText 65536) (txD st).2).1 := rfl
 have u1 : (txD (txD st).2).2 = (rStep [] (pText 65536) (txD st).2).2 := rfl
 rw [← t0, ← t1] at s0
 rw [← u0, ← u1] at s1
 have l0 := congrArg List.length s0
 have l1 := congrArg List.length s1
 rw [List.length_append] at l0 l1
 have b0 := textB_len (txD st).1
 have b1 := textB_len (txD (txD st).2).1
 have hlen := h.len
 have hbytes := h.bytes
 generalize (txD (txD st).2).2 = st2 at *
 generalize (txD (txD st).2).1 = v at *
 generalize (txD st).2 = st1 at *
 generalize (txD st).1 = tx at *
 generalize (decN tx).1 = m at *
 have hv : (⟨v.toArray⟩ : ByteArray).size = v.length := by simp [ByteArray.size]
 refine ⟨⟨by rw [← hi]; exact (insL_sort h.sort).1, ?_, ?_, ?_, ?_, ?_, ?_, Or.inr ⟨L, _, rfl⟩⟩, hi, e1, e0, ?_⟩
 ·intro x hx
  rcases List.mem_append.1 hx with hx | hx
  ·exact h.ok x hx
  ·simp only [List.mem_singleton] at hx; rw [hx]; exact ok
 ·intro x hx
  rcases List.mem_append.1 hx with hx | hx
  ·exact h.owner x hx
  ·simp only [List.mem_singleton] at hx; rw [hx]; simp only; omega
 ·intro x hx
  rcases List.mem_append.1 hx with hx | hx
  ·exact h.text x hx
  ·simp only [List.mem_singleton] at hx; rw [hx]; simp only; omega
 ·intro x hx
  rcases List.mem_append.1 hx with hx | hx
  ·exact h.value x hx
  ·simp only [List.mem_singleton] at hx; rw [hx]; simp only [hv]; omega
 ·simp only [List.length_append, List.length_cons, List.length_nil]; omega
 ·rw [bytesL_app]
  have : bytesL [((m : NameV), (⟨v.toArray⟩ : ByteArray))] = v.length := by simp [bytesL, hv]
  rw [this]; omega
 ·rw [s0, s1]
  simp only [entB]
  rw [hn, List.append_assoc]
  rfl
theorem decL_enc : ∀ (M : List Ent) (p : Nat) (last : NameV) (L : List Ent), SortL (L ++ M) → (L = [] ∨ ∃ K v, L = K ++ [(last, v)]) → (∀ x ∈ M, okNm x.1 = true) → (∀ x ∈ M, x.1.owner.size ≤ 65000) → (∀ x ∈ M, x.1.text.size ≤ 100) → (∀ x ∈ M, x.2.size ≤ 65536) →
  decL M.length (M.flatMap entB, p, 0) last L = (0, L ++ M)
 | [], p, last, L, _, _, _, _, _, _ => by simp [decL, closeN]
 | x :: M, p, last, L, hs, hl, ho, h1, h2, h3 => by
  have a0 := ho x (by simp)
  have a1 := h1 x (by simp)
  have a2 := h2 x (by simp)
  have a3 := h3 x (by simp)
  have a4 := nameL_length x.1
  have t0 : txD ((x :: M).flatMap entB, p, 0) = (nameL x.1, (textB (strL x.2) ++ M.flatMap entB, p + (textB (nameL x.1)).length, 0)) := by
   unfold txD
   rw [List.flatMap_cons, entB, List.append_assoc]
   exact rText_enc (nameL x.1) 65536 (by omega) (by omega) _ p
  have t1 : txD (textB (strL x.2) ++ M.flatMap entB, p + (textB (nameL x.1)).length, 0) = (strL x.2, (M.flatMap entB, p + (textB (nameL x.1)).length + (textB (strL x.2)).length, 0)) := by
   unfold txD
   exact rText_enc (strL x.2) 65536 (by rw [strL_length]; omega) (by rw [strL_length]; omega) _ _
  have t2 : decN (nameL x.1) = (x.1, 0) := decN_enc a0 (by omega)
  have hc : ¬ (0 < L.length ∧ cmpN x.1 last ≤ 0) := by
   rintro ⟨h5, h6⟩
   rcases hl with rfl | ⟨K, v, rfl⟩
   ·simp at h5
   ·have h7 := (SortL.parts hs).2.2.1 (last, v) (by simp)
    have h8 := cmpN_pos h7
    simp only at h8
    omega
  rw [List.length_cons, decL, t0]
  simp only
  rw [if_neg (by simp), t2]
  simp only
  rw [if_neg (by simp), if_neg hc, t1]
  simp only
  rw [if_neg (by simp)]
  have hx : (x.1, (⟨(strL x.2).toArray⟩ : ByteArray)) = x := rfl
  rw [hx]
  have := decL_enc M (p + (textB (nameL x.1)).length + (textB (strL x.2)).length) x.1 (L ++ [x]) (by rw [List.append_assoc]; exact hs) (Or.inr ⟨L, x.2, rfl⟩) (fun y hy => ho y (by simp [hy])) (fun y hy => h1 y (by simp [hy])) (fun y hy => h2 y (by simp [hy])) (fun y hy => h3 y (by simp [hy]))
  rw [this, List.append_assoc]
  rfl
theorem decS_enc {L : List Ent} (hs : SortL L) (hl : L.length ≤ 65536) (ho : ∀ x ∈ L, okNm x.1 = true) (h1 : ∀ x ∈ L, x.1.owner.size ≤ 65000) (h2 : ∀ x ∈ L, x.1.text.size ≤ 100) (h3 : ∀ x ∈ L, x.2.size ≤ 65536) : decS (encS L) = (0, L) := by
 unfold decS encS
 rw [rNum_enc L.length 65536 (by omega) (by omega) _ 0]
 simp only [Int.toNat_natCast]
 exact decL_enc L _ nmZ [] hs (Or.inl rfl) ho h1 h2 h3
end Go.Proofs.YtpnchdgplpdefaaGreatDoor
