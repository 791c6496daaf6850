/- The states of blocks, in plain Lean: lists of bytes below 4. No program in sight. -/
import Derived.Test.YtejajafbopabmaaDoorCodecP
import Derived.Lib.Bytealg
import Derived.Lib.IndexLaws
namespace Go.Proofs.YtejajafbopabmaaDoor

/-- What becomes of a state: a table of four. -/
def tabC (b : UInt8) : UInt8 := if b = 2 then 1 else if b = 3 then 0 else b
def tabA (b : UInt8) : UInt8 := if b = 2 then 0 else if b = 3 then 1 else b

/-- The first free place, or -1. -/
def freeI (l : List UInt8) : Int := Lib.indexByte l 0
def takeL (l : List UInt8) : List UInt8 := if 0 ≤ freeI l then l.set (freeI l).toNat 2 else l
def takeB (f : Nat) (l : List UInt8) : Int := if 0 ≤ freeI l then (f : Int) + freeI l else 0
def takeE (l : List UInt8) : Int := if 0 ≤ freeI l then 0 else 26
def isIn (f n : Nat) (b : Int) : Bool := decide ((f : Int) ≤ b) && decide (b < (f : Int) + n)
def byteAt (l : List UInt8) (k : Nat) : Nat := (l[k]?.getD 0).toNat
def stAt (f : Nat) (l : List UInt8) (b : Int) : Nat := if isIn f l.length b then byteAt l (b - f).toNat else 0
def stErr (f : Nat) (l : List UInt8) (b : Int) : Int := if isIn f l.length b then 0 else 2
def giveL (f : Nat) (l : List UInt8) (b : Int) : List UInt8 :=
  if isIn f l.length b then (if byteAt l (b - f).toNat = 1 then l.set (b - f).toNat 3 else if byteAt l (b - f).toNat = 2 then l.set (b - f).toNat 0 else l) else l
def giveE (f : Nat) (l : List UInt8) (b : Int) : Int :=
  if isIn f l.length b then (if byteAt l (b - f).toNat = 1 then 0 else if byteAt l (b - f).toNat = 2 then 0 else 10) else 2
/-- The blocks in one of two states. -/
def listL (a b : UInt8) (f : Nat) : List UInt8 → List Nat
  | [] => []
  | x :: l => if x = a ∨ x = b then f :: listL a b (f + 1) l else listL a b (f + 1) l
def ok4 (l : List UInt8) : Prop := ∀ b ∈ l, b.toNat < 4

theorem byteAt_lt {l : List UInt8} (h : ok4 l) (k : Nat) : byteAt l k < 4 := by
  unfold byteAt
  cases e : l[k]? with
  | none => simp
  | some b => exact h b (List.mem_of_getElem? e)
theorem ok4_set {l : List UInt8} (h : ok4 l) (i : Nat) (u : UInt8) (hu : u.toNat < 4) : ok4 (l.set i u) := fun b hb => by
  rcases List.mem_or_eq_of_mem_set hb with h1 | h1
  · exact h b h1
  · rw [h1]; exact hu
theorem freeI_lt (l : List UInt8) : freeI l < l.length := by
  unfold freeI
  induction l with
  | nil => simp [Lib.indexByte]
  | cons x l ih =>
    simp only [Lib.indexByte, List.length_cons]
    repeat' split
    all_goals omega
theorem freeI_ge (l : List UInt8) : -1 ≤ freeI l := Lib.indexByte_ge l 0
theorem takeL_length (l : List UInt8) : (takeL l).length = l.length := by unfold takeL; split <;> simp
theorem giveL_length (f : Nat) (l : List UInt8) (b : Int) : (giveL f l b).length = l.length := by
  unfold giveL
  repeat' split
  all_goals simp
theorem takeL_ok {l : List UInt8} (h : ok4 l) : ok4 (takeL l) := by unfold takeL; split; exact ok4_set h _ _ (by decide); exact h
theorem giveL_ok {l : List UInt8} (h : ok4 l) (f : Nat) (b : Int) : ok4 (giveL f l b) := by
  unfold giveL; repeat' split
  all_goals first | exact h | exact ok4_set h _ _ (by decide)
theorem ok4_zeros (n : Nat) : ok4 (List.replicate n 0) := fun b hb => by rw [(List.mem_replicate.1 hb).2]; decide
theorem ok4_map {l : List UInt8} (t : UInt8 → UInt8) (ht : ∀ x : UInt8, x.toNat < 4 → (t x).toNat < 4) (h : ok4 l) : ok4 (l.map t) := fun b hb => by
  obtain ⟨a, ha, rfl⟩ := List.mem_map.1 hb
  exact ht a (h a ha)
theorem tabC_ok (x : UInt8) (h : x.toNat < 4) : (tabC x).toNat < 4 := by
  unfold tabC
  repeat' split
  all_goals first | exact h | decide
theorem tabA_ok (x : UInt8) (h : x.toNat < 4) : (tabA x).toNat < 4 := by
  unfold tabA
  repeat' split
  all_goals first | exact h | decide
end Go.Proofs.YtejajafbopabmaaDoor
