/- State: find, with, without (written by genSaZ.py). -/
import Derived.Test.YtpnchdgplpdefaaDoorLmSaY
namespace Go.Proofs.YtpnchdgplpdefaaDoor
open Go.RowKit Go.Shelf
abbrev Ent := NameV × ByteArray
def SortL (L : List Ent) : Prop := L.Pairwise (fun a b => cmpN a.1 b.1 < 0)
def insL (nm : NameV) (v : ByteArray) : List Ent → List Ent
 | [] => [(nm, v)]
 | x :: r => if cmpN nm x.1 < 0 then (nm, v) :: x :: r else if cmpN nm x.1 = 0 then (nm, v) :: r else x :: insL nm v r
def delL (nm : NameV) : List Ent → List Ent
 | [] => []
 | x :: r => if cmpN nm x.1 = 0 then r else x :: delL nm r
theorem insL_lt {nm : NameV} {v : ByteArray} {x : Ent} (h : cmpN nm x.1 < 0) : ∀ (L R : List Ent), insL nm v (L ++ x :: R) = insL nm v L ++ x :: R
 | [], R => by simp [insL, h]
 | y :: L, R => by
  simp only [List.cons_append, insL]
  split
  ·rfl
  ·split
   ·rfl
   ·rw [insL_lt h L R]
    rfl
theorem insL_gt {nm : NameV} {v : ByteArray} : ∀ (L M : List Ent), (∀ y ∈ L, 0 < cmpN nm y.1) → insL nm v (L ++ M) = L ++ insL nm v M
 | [], _, _ => rfl
 | y :: L, M, h => by
  have h1 := h y (by simp)
  simp only [List.cons_append, insL]
  rw [if_neg (by omega), if_neg (by omega), insL_gt L M (fun z hz => h z (by simp [hz]))]
theorem delL_gt {nm : NameV} : ∀ (L M : List Ent), (∀ y ∈ L, 0 < cmpN nm y.1) → delL nm (L ++ M) = L ++ delL nm M
 | [], _, _ => rfl
 | y :: L, M, h => by
  have h1 := h y (by simp)
  simp only [List.cons_append, delL]
  rw [if_neg (by omega), delL_gt L M (fun z hz => h z (by simp [hz]))]
theorem SortL.parts {L R : List Ent} {x : Ent} (h : SortL (L ++ x :: R)) : SortL L ∧ SortL R ∧ (∀ y ∈ L, cmpN y.1 x.1 < 0) ∧ (∀ y ∈ R, cmpN x.1 y.1 < 0) := by
 unfold SortL at h
 rw [List.pairwise_append, List.pairwise_cons] at h
 exact ⟨h.1, h.2.1.2, fun y hy => h.2.2 y hy x (by simp), h.2.1.1⟩
theorem cmpN_pos {a b : NameV} (h : cmpN a b < 0) : 0 < cmpN b a := by rw [cmpN_is.anti a b]; omega
theorem cmpN_neg {a b : NameV} (h : 0 < cmpN a b) : cmpN b a < 0 := by rw [cmpN_is.anti a b]; omega
theorem insL_sort {nm : NameV} {v : ByteArray} : ∀ {L : List Ent}, SortL L → SortL (insL nm v L) ∧ ∀ x ∈ insL nm v L, x = (nm, v) ∨ x ∈ L
 | [], _ => by simp [insL, SortL]
 | y :: L, h => by
  have h1 := List.pairwise_cons.1 h
  rw [insL]
  split
  ·rename_i hlt
   refine ⟨List.pairwise_cons.2 ⟨fun z hz => ?_, h⟩, fun x hx => by simpa using hx⟩
   rcases List.mem_cons.1 hz with rfl | hz
   ·exact hlt
   ·exact cmpN_is.trans _ _ _ hlt (h1.1 z hz)
  ·split
   ·rename_i _ he
    have e := cmpN_is.eq _ _ he
    refine ⟨List.pairwise_cons.2 ⟨fun z hz => ?_, h1.2⟩, fun x hx => ?_⟩
    ·simp only
     rw [e]
     exact h1.1 z hz
    ·rcases List.mem_cons.1 hx with h | h
     ·exact .inl h
     ·exact .inr (List.mem_cons_of_mem _ h)
   ·rename_i hn he
    obtain ⟨i1, i2⟩ := insL_sort (nm := nm) (v := v) h1.2
    refine ⟨List.pairwise_cons.2 ⟨fun z hz => ?_, i1⟩, fun x hx => ?_⟩
    ·rcases i2 z hz with rfl | hz
     ·exact cmpN_neg (by simp only; omega)
     ·exact h1.1 z hz
    ·rcases List.mem_cons.1 hx with h | h
     ·exact .inr (by simp [h])
     ·rcases i2 x h with h | h
      ·exact .inl h
      ·exact .inr (List.mem_cons_of_mem _ h)
theorem delL_sub {nm : NameV} : ∀ (L : List Ent), (delL nm L).Sublist L
 | [] => .slnil
 | y :: L => by
  rw [delL]
  split
  ·exact List.sublist_cons_self _ _
  ·exact (delL_sub L).cons_cons _
theorem delL_sort {nm : NameV} {L : List Ent} (h : SortL L) : SortL (delL nm L) := h.sublist (delL_sub L)
def OwnS (L : List Ent) : Prop := ∀ x ∈ L, x.1.owner.size ≤ 1099511627776
def hgt (w : World) : Value → Nat
 | .pointer (some a) => match w.cell? ⟨a.block, 8, none⟩ with
  | some (.int _ h) => h.toNat
  | _ => 0
 | _ => 0
end Go.Proofs.YtpnchdgplpdefaaDoor
