/- State: object.Decode's contract, and what state.Decode reads, plain. -/
import Derived.Test.YtpnchdgplpdefaaDoorLmScj
import Derived.Test.YtpnchdgplpdefaaDoorLmGwE
import Derived.Test.YtpnchdgplpdefaaDoorLmSbY
import Derived.Test.YtpnchdgplpdefaaDoorLmSbC
namespace Go.Proofs.YtpnchdgplpdefaaDoor
open Go.RowKit Go.Shelf
def NDecAny (w : World) (l : List UInt8) (e : Ending) (w' : World) : Prop := e = .returned (.tuple #[.agg (decN l).1.cells.toArray, .int .i64 (decN l).2]) ∧ Fr Nothing w w'
theorem NDec_any (s : ByteArray) (w : World) (hU : UsaT w) (hs : s.size ≤ 16777216) : Calls Tryd.prog 67 #[.string s] w (NDecAny w (strL s)) := by
 obtain ⟨u, hu⟩ := dst0_row (strL s)
 refine (NDec_walk s u w hU hs hu).mono ?_
 rintro e w' ⟨n, k, rfl, hf, h⟩
 unfold NDecAny
 rw [decN_of hu]
 rcases h with ⟨h1, h2, rfl, rfl⟩ | ⟨h, rfl, rfl⟩
 ·rw [if_pos ⟨h1, h2⟩]
  exact ⟨rfl, hf⟩
 ·rw [if_neg h]
  exact ⟨rfl, hf⟩
abbrev Rst := List UInt8 × Nat × Int
def txD (st : Rst) : List UInt8 × Rst := rStep [] (pText 65536) st
def decL : Nat → Rst → NameV → List Ent → Int × List Ent
 | 0, st, _, L => (closeN st, L)
 | n + 1, st, last, L =>
  if (txD st).2.2.2 ≠ 0 then ((txD st).2.2.2, []) else
  if (decN (txD st).1).2 ≠ 0 then ((decN (txD st).1).2, []) else
  if 0 < L.length ∧ cmpN (decN (txD st).1).1 last ≤ 0 then (32, []) else
  if (txD (txD st).2).2.2.2 ≠ 0 then ((txD (txD st).2).2.2.2, []) else
  decL n (txD (txD st).2).2 (decN (txD st).1).1 (L ++ [((decN (txD st).1).1, ⟨(txD (txD st).2).1.toArray⟩)])
def nmZ : NameV := ⟨0, ByteArray.empty, 0, 0, ByteArray.empty⟩
def decS (l : List UInt8) : Int × List Ent := decL (rStep 0 (pNumber 65536) (l, 0, 0)).1.toNat (rStep 0 (pNumber 65536) (l, 0, 0)).2 nmZ []
structure KInv (L : List Ent) (last : NameV) (st : Rst) : Prop where
 sort : SortL L
 ok : ∀ x ∈ L, okNm x.1 = true
 owner : ∀ x ∈ L, x.1.owner.size ≤ 70000
 text : ∀ x ∈ L, x.1.text.size ≤ 70000
 value : ∀ x ∈ L, x.2.size ≤ 70000
 len : 2 * L.length + st.1.length ≤ 70000
 bytes : bytesL L + st.1.length ≤ 70000
 last : L = [] ∨ ∃ M v, L = M ++ [(last, v)]
theorem KInv.nil {l : List UInt8} (h : l.length ≤ 70000) (st : Rst) (hs : st.1.length ≤ l.length) : KInv [] nmZ st :=
 ⟨List.Pairwise.nil, (fun _ h => by cases h), (fun _ h => by cases h), (fun _ h => by cases h), (fun _ h => by cases h), by simp; omega, by simp [bytesL]; omega, Or.inl rfl⟩
theorem KInv.good {L : List Ent} {last : NameV} {st : Rst} (h : KInv L last st) : GoodL L :=
 ⟨h.sort, fun x hx => by have := h.owner x hx; omega, by have := h.len; omega, by have := h.bytes; omega, h.ok⟩
theorem KInv.small {L : List Ent} {last : NameV} {st : Rst} (h : KInv L last st) : SmallE L :=
 ⟨h.ok, fun x hx => by have := h.owner x hx; omega, fun x hx => by have := h.text x hx; omega, fun x hx => by have := h.value x hx; omega, by have := h.len; omega⟩
theorem textB_len (s : List UInt8) : s.length + 1 ≤ (textB s).length := by
 unfold textB
 have : 1 ≤ (enc s.length).length := encF_ne 9 _
 rw [List.length_append]; omega
theorem bytesL_app (A B : List Ent) : bytesL (A ++ B) = bytesL A + bytesL B := by simp [bytesL]
theorem sort_snoc {L : List Ent} {last m : NameV} (hs : SortL L) (hl : L = [] ∨ ∃ M v, L = M ++ [(last, v)]) (hc : ¬ (0 < L.length ∧ cmpN m last ≤ 0)) : ∀ y ∈ L, 0 < cmpN m y.1 := by
 rcases hl with rfl | ⟨M, u, rfl⟩
 ·intro y hy; cases hy
 ·have hp : 0 < cmpN m last := by
   by_cases h : 0 < cmpN m last
   ·exact h
   ·exact absurd ⟨by simp, by omega⟩ hc
  intro y hy
  rcases List.mem_append.1 hy with hy | hy
  ·have h1 := (SortL.parts hs).2.2.1 y hy
   exact cmpN_pos (cmpN_is.trans y.1 last m h1 (cmpN_neg hp))
  ·simp only [List.mem_singleton] at hy
   rw [hy]
   exact hp
theorem KInv.next {L : List Ent} {last : NameV} {st : Rst} (h : KInv L last st) (h1 : (decN (txD st).1).2 = 0) (h2 : ¬ (0 < L.length ∧ cmpN (decN (txD st).1).1 last ≤ 0)) (h3 : (txD (txD st).2).2.2.2 = 0) :
  KInv (L ++ [((decN (txD st).1).1, ⟨(txD (txD st).2).1.toArray⟩)]) (decN (txD st).1).1 (txD (txD st).2).2 ∧ insL (decN (txD st).1).1 ⟨(txD (txD st).2).1.toArray⟩ L = L ++ [((decN (txD st).1).1, ⟨(txD (txD st).2).1.toArray⟩)] ∧
  (txD st).2.2.2 = 0 ∧ st.2.2 = 0 ∧ st.1 = entB ((decN (txD st).1).1, ⟨(txD (txD st).2).1.toArray⟩) ++ (txD (txD st).2).2.1 := by
 have hgt := sort_snoc h.sort h.last h2
 obtain ⟨e1, s1⟩ := rText_invN 65536 (txD st).2 h3
 obtain ⟨e0, s0⟩ := rText_invN 65536 st e1
 obtain ⟨ok, hn⟩ := decN_inv h1
 have hsm := decN_small (txD st).1
 have hi : insL (decN (txD st).1).1 ⟨(txD (txD st).2).1.toArray⟩ L = L ++ [((decN (txD st).1).1, ⟨(txD (txD st).2).1.toArray⟩)] := by
  have := insL_gt (v := ⟨(txD (txD st).2).1.toArray⟩) L [] hgt
  rw [List.append_nil] at this
  rw [this]
  rfl
 have t0 : (txD st).1 = (rStep [] (pText 65536) st).1 := rfl
 have t1 : (txD st).2 = (rStep [] (pText 65536) st).2 := rfl
 have u0 : (txD (txD st).2).1 = (rStep [] (pText 65536) (txD st).2).1 := rfl
 have u1 : (txD (txD st).2).2 = (rStep [] (pText 65536) (txD st).2).2 := rfl
 rw [← t0, ← t1] at s0
 rw [← u0, ← u1] at s1
 have l0 := congrArg List.length s0
 have l1 := congrArg List.length s1
 rw [List.length_append] at l0 l1
 have b0 := textB_len (txD st).1
 have b1 := textB_len (txD (txD st).2).1
 have hlen := h.len
 have hbytes := h.bytes
 generalize (txD (txD st).2).2 = st2 at *
 generalize (txD (txD st).2).1 = v at *
 generalize (txD st).2 = st1 at *
 generalize (txD st).1 = tx at *
 generalize (decN tx).1 = m at *
 have hv : (⟨v.toArray⟩ : ByteArray).size = v.length := by simp [ByteArray.size]
 refine ⟨⟨by rw [← hi]; exact (insL_sort h.sort).1, ?_, ?_, ?_, ?_, ?_, ?_, Or.inr ⟨L, _, rfl⟩⟩, hi, e1, e0, ?_⟩
 ·intro x hx
  rcases List.mem_append.1 hx with hx | hx
  ·exact h.ok x hx
  ·simp only [List.mem_singleton] at hx; rw [hx]; exact ok
 ·intro x hx
  rcases List.mem_append.1 hx with hx | hx
  ·exact h.owner x hx
  ·simp only [List.mem_singleton] at hx; rw [hx]; simp only; omega
 ·intro x hx
  rcases List.mem_append.1 hx with hx | hx
  ·exact h.text x hx
  ·simp only [List.mem_singleton] at hx; rw [hx]; simp only; omega
 ·intro x hx
  rcases List.mem_append.1 hx with hx | hx
  ·exact h.value x hx
  ·simp only [List.mem_singleton] at hx; rw [hx]; simp only [hv]; omega
 ·simp only [List.length_append, List.length_cons, List.length_nil]; omega
 ·rw [bytesL_app]
  have : bytesL [((m : NameV), (⟨v.toArray⟩ : ByteArray))] = v.length := by simp [bytesL, hv]
  rw [this]; omega
 ·rw [s0, s1]
  simp only [entB]
  rw [hn, List.append_assoc]
  rfl
theorem decL_enc : ∀ (M : List Ent) (p : Nat) (last : NameV) (L : List Ent), SortL (L ++ M) → (L = [] ∨ ∃ K v, L = K ++ [(last, v)]) → (∀ x ∈ M, okNm x.1 = true) → (∀ x ∈ M, x.1.owner.size ≤ 65000) → (∀ x ∈ M, x.1.text.size ≤ 100) → (∀ x ∈ M, x.2.size ≤ 65536) →
  decL M.length (M.flatMap entB, p, 0) last L = (0, L ++ M)
 | [], p, last, L, _, _, _, _, _, _ => by simp [decL, closeN]
 | x :: M, p, last, L, hs, hl, ho, h1, h2, h3 => by
  have a0 := ho x (by simp)
  have a1 := h1 x (by simp)
  have a2 := h2 x (by simp)
  have a3 := h3 x (by simp)
  have a4 := nameL_length x.1
  have t0 : txD ((x :: M).flatMap entB, p, 0) = (nameL x.1, (textB (strL x.2) ++ M.flatMap entB, p + (textB (nameL x.1)).length, 0)) := by
   unfold txD
   rw [List.flatMap_cons, entB, List.append_assoc]
   exact rText_enc (nameL x.1) 65536 (by omega) (by omega) _ p
  have t1 : txD (textB (strL x.2) ++ M.flatMap entB, p + (textB (nameL x.1)).length, 0) = (strL x.2, (M.flatMap entB, p + (textB (nameL x.1)).length + (textB (strL x.2)).length, 0)) := by
   unfold txD
   exact rText_enc (strL x.2) 65536 (by rw [strL_length]; omega) (by rw [strL_length]; omega) _ _
  have t2 : decN (nameL x.1) = (x.1, 0) := decN_enc a0 (by omega)
  have hc : ¬ (0 < L.length ∧ cmpN x.1 last ≤ 0) := by
   rintro ⟨h5, h6⟩
   rcases hl with rfl | ⟨K, v, rfl⟩
   ·simp at h5
   ·have h7 := (SortL.parts hs).2.2.1 (last, v) (by simp)
    have h8 := cmpN_pos h7
    simp only at h8
    omega
  rw [List.length_cons, decL, t0]
  simp only
  rw [if_neg (by simp), t2]
  simp only
  rw [if_neg (by simp), if_neg hc, t1]
  simp only
  rw [if_neg (by simp)]
  have hx : (x.1, (⟨(strL x.2).toArray⟩ : ByteArray)) = x := rfl
  rw [hx]
  have := decL_enc M (p + (textB (nameL x.1)).length + (textB (strL x.2)).length) x.1 (L ++ [x]) (by rw [List.append_assoc]; exact hs) (Or.inr ⟨L, x.2, rfl⟩) (fun y hy => ho y (by simp [hy])) (fun y hy => h1 y (by simp [hy])) (fun y hy => h2 y (by simp [hy])) (fun y hy => h3 y (by simp [hy]))
  rw [this, List.append_assoc]
  rfl
theorem decS_enc {L : List Ent} (hs : SortL L) (hl : L.length ≤ 65536) (ho : ∀ x ∈ L, okNm x.1 = true) (h1 : ∀ x ∈ L, x.1.owner.size ≤ 65000) (h2 : ∀ x ∈ L, x.1.text.size ≤ 100) (h3 : ∀ x ∈ L, x.2.size ≤ 65536) : decS (encS L) = (0, L) := by
 unfold decS encS
 rw [rNum_enc L.length 65536 (by omega) (by omega) _ 0]
 simp only [Int.toNat_natCast]
 exact decL_enc L _ nmZ [] hs (Or.inl rfl) ho h1 h2 h3
end Go.Proofs.YtpnchdgplpdefaaDoor
