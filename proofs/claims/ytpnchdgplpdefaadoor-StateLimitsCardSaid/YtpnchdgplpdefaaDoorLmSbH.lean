/- State: the reference's With, Without (written by genSbH.py). -/
import Derived.Test.YtpnchdgplpdefaaDoorLmSbG
import Derived.ArgAppend
namespace Go.Proofs.YtpnchdgplpdefaaDoor
open Go.RowKit Go.Shelf
def RowE (w : World) (v : Value) (L : List Ent) : Prop := w.ownsRow 0 54 6 v L.length (L.flatMap entC)
theorem RowE.fr0 {w w' : World} {v : Value} {L : List Ent} (h : RowE w v L) (hf : Fr Nothing w w') : RowE w' v L := own_fr h hf (fun _ _ x => x)
theorem RowE.nil (w : World) : RowE w (.slice none 0 0) [] := ⟨rfl, .inl ⟨rfl, rfl⟩⟩
theorem RowE.el {w : World} {A : Option Addr} {n c : Nat} {L : List Ent} (h : RowE w (.slice A n c) L) : n = L.length ∧ EL w (fun _ => True) A n L ∧ n ≤ c := by
 obtain ⟨A', m, c', e, hm, hc⟩ := own_slice h
 cases e
 have hm' := hm.out
 subst hm'
 exact ⟨rfl, ⟨(Rd.of_own h).any, rfl⟩, hc.out⟩
theorem RowE.form {w : World} {v : Value} {L : List Ent} (h : RowE w v L) : (v = .slice none 0 0 ∧ L = []) ∨ ∃ g c, v = .slice (some ⟨g, 0, none⟩) L.length c ∧ L.length ≤ c ∧ c ≤ maxLen := by
 rcases h.2 with ⟨rfl, h0⟩ | ⟨g, cap, cur, rfl, _, _, h1, h2, _⟩
 ·left
  refine ⟨rfl, List.length_eq_zero_iff.1 ?_⟩
  omega
 ·exact .inr ⟨g, cap, rfl, h1, h2⟩
theorem flatMap_entC_len (L : List Ent) : (L.flatMap entC).length = L.length * 6 := by
 induction L with
 | nil => rfl
 | cons x L ih => rw [List.flatMap_cons, List.length_append, ih, entC_length, List.length_cons]; omega
theorem flatMap_take (L : List Ent) (k : Nat) : (L.take k).flatMap entC = (L.flatMap entC).take (k * 6) := by
 induction L generalizing k with
 | nil => simp
 | cons x L ih =>
  cases k with
  | zero => simp
  | succ k =>
   rw [List.take_succ_cons, List.flatMap_cons, List.flatMap_cons, ih, List.take_append, entC_length, show (entC x).take ((k + 1) * 6) = entC x from List.take_of_length_le (by rw [entC_length]; omega), show (k + 1) * 6 - 6 = k * 6 by omega]
theorem flatMap_drop (L : List Ent) (k : Nat) : (L.drop k).flatMap entC = (L.flatMap entC).drop (k * 6) := by
 induction L generalizing k with
 | nil => simp
 | cons x L ih =>
  cases k with
  | zero => simp
  | succ k =>
   rw [List.drop_succ_cons, List.flatMap_cons, ih, List.drop_append, entC_length, show (entC x).drop ((k + 1) * 6) = [] from List.drop_of_length_le (by rw [entC_length]; omega), List.nil_append, show (k + 1) * 6 - 6 = k * 6 by omega]
theorem EL.take {w : World} {S : Nat → Prop} {A : Option Addr} {n k : Nat} {L : List Ent} (h : EL w S A n L) (hk : k ≤ n) : Rd w S 6 A k ((L.take k).flatMap entC) := by
 refine ⟨by rw [flatMap_entC_len, List.length_take, h.len]; omega, fun h0 => ?_⟩
 obtain ⟨ad, e, hs, hc⟩ := h.rd.2 (by omega)
 refine ⟨ad, e, hs, fun j u hu => hc j u ?_⟩
 rw [flatMap_take] at hu
 have hj := (List.getElem?_eq_some_iff.1 hu).1
 rw [List.getElem?_take_of_lt (by rw [List.length_take] at hj; omega)] at hu
 exact hu
theorem EL.drop {w : World} {S : Nat → Prop} {ad : Addr} {n k : Nat} {L : List Ent} (h : EL w S (some ad) n L) (hk : k ≤ n) : Rd w S 6 (some (ad.add (k * 6))) (n - k) ((L.drop k).flatMap entC) := by
 refine ⟨by rw [flatMap_entC_len, List.length_drop, h.len], fun h0 => ?_⟩
 obtain ⟨ad', e, hs, hc⟩ := h.rd.2 (by omega)
 cases e
 refine ⟨_, rfl, by unfold Addr.add; split <;> exact hs, fun j u hu => ?_⟩
 rw [Addr.add_add]
 refine hc _ u ?_
 rw [flatMap_drop, List.getElem?_drop] at hu
 exact hu
end Go.Proofs.YtpnchdgplpdefaaDoor
