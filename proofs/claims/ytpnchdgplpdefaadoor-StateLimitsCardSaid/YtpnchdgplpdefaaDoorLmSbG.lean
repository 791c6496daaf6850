/- State: the reference's lists, Find (written by genSbG.py). -/
import Derived.Test.YtpnchdgplpdefaaDoorLmSbD
import Derived.Test.YtpnchdgplpdefaaDoorLmSbC
namespace Go.Proofs.YtpnchdgplpdefaaDoor
open Go.RowKit Go.Shelf
def entC (x : Ent) : List Value := x.1.cells ++ [.string x.2]
theorem entC_length (x : Ent) : (entC x).length = 6 := rfl
theorem flat6 : ∀ (xs : List Ent) (k : Nat) (c : Ent), xs[k]? = some c → ∀ j x, (entC c)[j]? = some x → (xs.flatMap entC)[k * 6 + j]? = some x
 | [], _, _, h, _, _, _ => by simp at h
 | y :: ys, 0, c, h, j, x, hx => by
  simp only [List.getElem?_cons_zero, Option.some.injEq] at h
  subst h
  have hj : j < 6 := (List.getElem?_eq_some_iff.1 hx).1
  rw [List.flatMap_cons, Nat.zero_mul, Nat.zero_add, List.getElem?_append_left hj]
  exact hx
 | y :: ys, k + 1, c, h, j, x, hx => by
  simp only [List.getElem?_cons_succ] at h
  rw [List.flatMap_cons, List.getElem?_append_right (by rw [entC_length]; omega), entC_length, show (k + 1) * 6 + j - 6 = k * 6 + j by omega]
  exact flat6 ys k c h j x hx
structure EL (w : World) (S : Nat → Prop) (A : Option Addr) (n : Nat) (xs : List Ent) : Prop where
 rd : Rd w S 6 A n (xs.flatMap entC)
 len : xs.length = n
theorem EL.fr0 {w w' : World} {S : Nat → Prop} {A : Option Addr} {n : Nat} {xs : List Ent} (h : EL w S A n xs) (hf : Fr Nothing w w') : EL w' S A n xs := ⟨h.rd.fr0 hf, h.len⟩
theorem EL.at_ {w : World} {S : Nat → Prop} {A : Option Addr} {n k : Nat} {xs : List Ent} (h : EL w S A n xs) (hk : k < n) : ∃ ad c, A = some ad ∧ xs[k]? = some c ∧ ∀ j x, (entC c)[j]? = some x → w.cell? ((ad.add (k * 6)).add j) = some x := by
 obtain ⟨ad, e, hb, hc⟩ := h.rd.2 (by omega)
 have hkl : k < xs.length := by rw [h.len]; exact hk
 refine ⟨ad, xs[k], e, List.getElem?_eq_getElem hkl, fun j x hx => ?_⟩
 rw [Addr.add_add]
 exact hc _ _ (flat6 xs k _ (List.getElem?_eq_getElem hkl) j x hx)
end Go.Proofs.YtpnchdgplpdefaaDoor
