/- A region whose operations all yield values known before: no facts, values only. Plain lemmas over any program. -/
import Derived.Test.YtpnchdgplpdefaaGreatDoorEnGwB
namespace Go.Proofs.YtpnchdgplpdefaaGreatDoor
open Go.RowKit
theorem StableL.is {T : Nat → Prop} {w : World} : ∀ V : List Value, StableL T w (V.map Is)
 | [] => trivial
 | x :: r => ⟨Is.stable x, StableL.is r⟩
theorem factOf_is : ∀ (V : List Value) (j : Nat) (w : World), factOf (V.map Is) j (V.getD j undef) w
 | [], _, _ => trivial
 | _ :: _, 0, _ => rfl
 | _ :: r, j + 1, w => factOf_is r j w
theorem factOf_val : ∀ (V : List Value) (j : Nat) (v : Value) (w : World), j < V.length → factOf (V.map Is) j v w → v = V.getD j undef
 | _ :: _, 0, _, _, _, h => h
 | _ :: r, j + 1, v, w, hj, h => factOf_val r j v w (by simpa using hj) h
def OneIs (a : Act) (d : Option Tmp) (w : World) (v : Value) (a' : Act) (w' : World) : Prop := a' = a.put d v ∧ Fr Nothing w w'
def headIs (P : Program) (ops : Array Oper) (Q : Exit → Act → World → Prop) (w : World) (F : (Nat → Value) → Act) (V : List Value) : Nat → List Oper → Prop
 | _, [] => True
 | i, o :: r => (∀ u w', Fr Nothing w w' → (∀ j, (_ : Region.waitsFor .any ops i j = true := by kernel_rfl) → factOf (V.map Is) j (u j) w') → wpW P ops Q o (F u) w' (OneIs (F u) o.dst w' (V.getD i undef))) ∧ headIs P ops Q w F V (i + 1) r
theorem headIs.st {P : Program} {ops : Array Oper} {Q : Exit → Act → World → Prop} {w : World} {F : (Nat → Value) → Act} {V : List Value} {n : Nat} : ∀ {l : List Oper} {i : Nat}, headIs P ops Q w F V i l → headSt P ops Q Nothing w F (factOf (V.map Is)) [] (fun _ => True) (fun _ _ => false) n i l
 | [], _, _ => trivial
 | _ :: _, i, h => ⟨fun u w' _ hf hR _ _ _ => wpW_mono (fun _ w'' ⟨e, f⟩ => ⟨_, e, f, factOf_is V i w'', trivial⟩) (h.1 u w' hf hR), headIs.st h.2⟩
theorem skS {P : Program} {ops : Array Oper} {Q : Exit → Act → World → Prop} {o : Oper} {a : Act} {w : World} (h : Region.wanted o (yielded ops a.tmps) = false := by kernel_rfl) : wpW P ops Q o a w (OneIs a o.dst w undef) := .inr ⟨h, rfl, Fr.refl _ _⟩
theorem goS {P : Program} {ops : Array Oper} {Q : Exit → Act → World → Prop} {o : Oper} {a : Act} {w : World} {K : Act → World → Prop} (h : o.wp P a w K Q) (hw : Region.wanted o (yielded ops a.tmps) = true := by kernel_rfl) : wpW P ops Q o a w K := .inl ⟨hw, h⟩
theorem z1 {α : Type} {n : Nat} {a : α} {l : List α} : (a :: l).take (n + 1) = a :: l.take n := rfl
theorem z2 {α : Type} {l : List α} : l.take 0 = [] := rfl
theorem z3 {α β : Type} {f : α → β} {a : α} {l : List α} : (a :: l).map f = f a :: l.map f := rfl
theorem z4 {α β : Type} {f : α → β} : ([] : List α).map f = [] := rfl
theorem z5 {α : Type} {i : Nat} {a : α} {l : List α} : l.toArray.setIfInBounds i a = (l.set i a).toArray := List.setIfInBounds_toArray ..
theorem z6 {α : Type} {a b : α} {l : List α} : (a :: l).set 0 b = b :: l := rfl
theorem z7 {α : Type} {n : Nat} {a b : α} {l : List α} : (a :: l).set (n + 1) b = a :: l.set n b := rfl
theorem z8 {α : Type} {n : Nat} {a : α} {l : List α} : (a :: l).drop (n + 1) = l.drop n := rfl
theorem z9 {α : Type} {l : List α} : l.drop 0 = l := rfl
theorem z10 {α : Type} {a d : α} {l : List α} : (a :: l).getD 0 d = a := rfl
theorem z11 {α : Type} {n : Nat} {a d : α} {l : List α} : (a :: l).getD (n + 1) d = l.getD n d := rfl
theorem puts_is (ds : List (Option Tmp)) (V : List Value) (u : Nat → Value) (a : Act) (hl : ds.length ≤ V.length) (h : ∀ j, j < V.length → u j = V.getD j undef) : puts ds 0 u a = puts ds 0 (fun j => V.getD j undef) a := by
 have : ∀ (ds : List (Option Tmp)) (k : Nat) (a : Act), k + ds.length ≤ V.length → puts ds k u a = puts ds k (fun j => V.getD j undef) a := by
  intro ds
  induction ds with
  | nil => intro k a _; rfl
  | cons d r ih =>
   intro k a hk
   simp only [List.length_cons] at hk
   rw [puts, puts, h k (by omega)]
   exact ih (k + 1) _ (by omega)
 exact this ds 0 a (by omega)
theorem wp_is {P : Program} {id : Nat} {Q : Exit → Act → World → Prop} {a : Act} {w : World} {l : List Oper} (n : Nat) (V : List Value) 
  (hh : headIs P l.toArray Q w (fun u => puts ((l.take n).map (·.dst)) 0 u a) V 0 (l.take n))
  (ht : ∀ w', Fr Nothing w w' → wpList P l.toArray Q (l.drop n) (puts ((l.take n).map (·.dst)) 0 (fun j => V.getD j undef) a) w') (hn : V.length = n := by rfl) (hm : P.follows .mixedOrders = true := by kernel_rfl) (hg : growS l.toArray n = true := by kernel_rfl) (hB : beforeB l.toArray n (fun _ _ => false) = true := by kernel_rfl) : (Code.region id l.toArray true).wp P Q a w := by
 refine wp_region_st n Nothing (V.map Is) [] (fun _ => True) (fun _ _ => false) hm hg hB (by simp [chainP]) (StableL.is V) trivial (fun _ _ _ _ h => h) trivial hh.st ?_
 intro u w' hf hR _
 rw [puts_is _ V u a (by rw [hn, List.length_map, List.length_take]; omega) (fun j hj => factOf_val V j (u j) w' hj (hR j (by omega)))]
 exact ht w' hf
theorem wq_is {P : Program} {id : Nat} {Q : Exit → Act → World → Prop} {a : Act} {w : World} {l : List Oper} (n : Nat) (V : List Value) 
  (hh : headIs P l.toArray Q w (fun u => puts ((l.take n).map (·.dst)) 0 u a) V 0 (l.take n))
  (ht : ∀ w', Fr Nothing w w' → wpList P l.toArray Q (l.drop n) (puts ((l.take n).map (·.dst)) 0 (fun j => V.getD j undef) a) w') (hn : V.length = n := by rfl) (hg : growQ l.toArray n = true := by kernel_rfl) (hB : beforeB l.toArray n (fun _ _ => false) = true := by kernel_rfl) : (Code.region id l.toArray false).wp P Q a w := by
 refine wp_region_sq n Nothing (V.map Is) [] (fun _ => True) (fun _ _ => false) hg hB (by simp [chainP]) (StableL.is V) trivial (fun _ _ _ _ h => h) trivial hh.st ?_
 intro u w' hf hR _
 rw [puts_is _ V u a (by rw [hn, List.length_map, List.length_take]; omega) (fun j hj => factOf_val V j (u j) w' hj (hR j (by omega)))]
 exact ht w' hf
structure Fact where
 p : Value → World → Prop
 st : ∀ v w w', Fr Nothing w w' → p v w → p v w'
def iS (x : Value) : Fact := ⟨Is x, fun _ _ _ _ h => h⟩
def anyF : Fact := ⟨fun _ _ => True, fun _ _ _ _ _ => trivial⟩
theorem StableL.fact {w : World} : ∀ V : List Fact, StableL Nothing w (V.map Fact.p)
 | [] => trivial
 | x :: r => ⟨fun v w' w'' _ f h => x.st v w' w'' f h, StableL.fact r⟩
theorem factOf_fact : ∀ (V : List Fact) (j : Nat), factOf (V.map Fact.p) j = (V.getD j anyF).p
 | [], _ => rfl
 | _ :: _, 0 => rfl
 | _ :: r, j + 1 => factOf_fact r j
def OneFa (a : Act) (d : Option Tmp) (w : World) (p : Value → World → Prop) (a' : Act) (w' : World) : Prop := ∃ v, a' = a.put d v ∧ Fr Nothing w w' ∧ p v w'
def headFa (P : Program) (ops : Array Oper) (Q : Exit → Act → World → Prop) (w : World) (F : (Nat → Value) → Act) (V : List Fact) : Nat → List Oper → Prop
 | _, [] => True
 | i, o :: r => (∀ u w', Fr Nothing w w' → (∀ j, (_ : Region.waitsFor .any ops i j = true := by kernel_rfl) → (V.getD j anyF).p (u j) w') → wpW P ops Q o (F u) w' (OneFa (F u) o.dst w' (V.getD i anyF).p)) ∧ headFa P ops Q w F V (i + 1) r
theorem headFa.st {P : Program} {ops : Array Oper} {Q : Exit → Act → World → Prop} {w : World} {F : (Nat → Value) → Act} {V : List Fact} {n : Nat} : ∀ {l : List Oper} {i : Nat}, headFa P ops Q w F V i l → headSt P ops Q Nothing w F (factOf (V.map Fact.p)) [] (fun _ => True) (fun _ _ => false) n i l
 | [], _, _ => trivial
 | _ :: _, i, h => ⟨fun u w' _ hf hR _ _ _ => wpW_mono (fun _ w'' ⟨v, e, f, q⟩ => ⟨v, e, f, by rw [factOf_fact]; exact q, trivial⟩) (h.1 u w' hf (fun j hj => by have := hR j hj; rw [factOf_fact] at this; exact this)), headFa.st h.2⟩
theorem wp_fa {P : Program} {id : Nat} {Q : Exit → Act → World → Prop} {a : Act} {w : World} {l : List Oper} (n : Nat) (V : List Fact)
  (hh : headFa P l.toArray Q w (fun u => puts ((l.take n).map (·.dst)) 0 u a) V 0 (l.take n))
  (ht : ∀ u w', Fr Nothing w w' → (∀ j, j < n → (V.getD j anyF).p (u j) w') → wpList P l.toArray Q (l.drop n) (puts ((l.take n).map (·.dst)) 0 u a) w')
  (hm : P.follows .mixedOrders = true := by kernel_rfl) (hg : growS l.toArray n = true := by kernel_rfl) (hB : beforeB l.toArray n (fun _ _ => false) = true := by kernel_rfl) : (Code.region id l.toArray true).wp P Q a w := by
 refine wp_region_st n Nothing (V.map Fact.p) [] (fun _ => True) (fun _ _ => false) hm hg hB (by simp [chainP]) (StableL.fact V) trivial (fun _ _ _ _ h => h) trivial hh.st ?_
 intro u w' hf hR _
 exact ht u w' hf (fun j hj => by have := hR j hj; rw [factOf_fact] at this; exact this)
end Go.Proofs.YtpnchdgplpdefaaGreatDoor
