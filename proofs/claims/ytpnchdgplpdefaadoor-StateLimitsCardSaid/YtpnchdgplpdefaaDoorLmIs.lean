/- A region whose operations all yield values known before: no facts, values only. Plain lemmas over any program. -/
import Derived.Test.YtpnchdgplpdefaaDoorLmGwB
namespace Go.Proofs.YtpnchdgplpdefaaDoor
open Go.RowKit
theorem StableL.is {T : Nat → Prop} {w : World} : ∀ V : List Value, StableL T w (V.map Is)
 | [] => trivial
 | x :: r => ⟨Is.stable x, StableL.is r⟩
theorem factOf_is : ∀ (V : List Value) (j : Nat) (w : World), factOf (V.map Is) j (V.getD j undef) w
 | [], _, _ => trivial
 | _ :: _, 0, _ => rfl
 | _ :: r, j + 1, w => factOf_is r j w
theorem factOf_val : ∀ (V : List Value) (j : Nat) (v : Value) (w : World), j < V.length → factOf (V.map Is) j v w → v = V.getD j undef
 | _ :: _, 0, _, _, _, h => h
 | _ :: r, j + 1, v, w, hj, h => factOf_val r j v w (by simpa using hj) h
def OneIs (a : Act) (d : Option Tmp) (w : World) (v : Value) (a' : Act) (w' : World) : Prop := a' = a.put d v ∧ Fr Nothing w w'
def headIs (P : Program) (ops : Array Oper) (Q : Exit → Act → World → Prop) (w : World) (F : (Nat → Value) → Act) (V : List Value) : Nat → List Oper → Prop
 | _, [] => True
 | i, o :: r => (∀ u w', Fr Nothing w w' → (∀ j, Region.waitsFor .any ops i j = true → factOf (V.map Is) j (u j) w') → wpW P ops Q o (F u) w' (OneIs (F u) o.dst w' (V.getD i undef))) ∧ headIs P ops Q w F V (i + 1) r
theorem headIs.st {P : Program} {ops : Array Oper} {Q : Exit → Act → World → Prop} {w : World} {F : (Nat → Value) → Act} {V : List Value} {n : Nat} : ∀ {l : List Oper} {i : Nat}, headIs P ops Q w F V i l → headSt P ops Q Nothing w F (factOf (V.map Is)) [] (fun _ => True) (fun _ _ => false) n i l
 | [], _, _ => trivial
 | _ :: _, i, h => ⟨fun u w' _ hf hR _ _ _ => wpW_mono (fun _ w'' ⟨e, f⟩ => ⟨_, e, f, factOf_is V i w'', trivial⟩) (h.1 u w' hf hR), headIs.st h.2⟩
theorem skS {P : Program} {ops : Array Oper} {Q : Exit → Act → World → Prop} {o : Oper} {a : Act} {w : World} (h : Region.wanted o (yielded ops a.tmps) = false) : wpW P ops Q o a w (OneIs a o.dst w undef) := .inr ⟨h, rfl, Fr.refl _ _⟩
theorem puts_is (ds : List (Option Tmp)) (V : List Value) (u : Nat → Value) (a : Act) (hl : ds.length ≤ V.length) (h : ∀ j, j < V.length → u j = V.getD j undef) : puts ds 0 u a = puts ds 0 (fun j => V.getD j undef) a := by
 have : ∀ (ds : List (Option Tmp)) (k : Nat) (a : Act), k + ds.length ≤ V.length → puts ds k u a = puts ds k (fun j => V.getD j undef) a := by
  intro ds
  induction ds with
  | nil => intro k a _; rfl
  | cons d r ih =>
   intro k a hk
   simp only [List.length_cons] at hk
   rw [puts, puts, h k (by omega)]
   exact ih (k + 1) _ (by omega)
 exact this ds 0 a (by omega)
theorem wq_is {P : Program} {id : Nat} {Q : Exit → Act → World → Prop} {a : Act} {w : World} {l : List Oper} (n : Nat) (V : List Value) (hn : V.length = n) (hg : growQ l.toArray n = true) (hB : beforeB l.toArray n (fun _ _ => false) = true)
  (hh : headIs P l.toArray Q w (fun u => puts ((l.take n).map (·.dst)) 0 u a) V 0 (l.take n))
  (ht : ∀ w', Fr Nothing w w' → wpList P l.toArray Q (l.drop n) (puts ((l.take n).map (·.dst)) 0 (fun j => V.getD j undef) a) w') : (Code.region id l.toArray false).wp P Q a w := by
 refine wp_region_sq n Nothing (V.map Is) [] (fun _ => True) (fun _ _ => false) hg hB (by simp [chainP]) (StableL.is V) trivial (fun _ _ _ _ h => h) trivial hh.st ?_
 intro u w' hf hR _
 rw [puts_is _ V u a (by rw [hn, List.length_map, List.length_take]; omega) (fun j hj => factOf_val V j (u j) w' hj (hR j (by omega)))]
 exact ht w' hf
end Go.Proofs.YtpnchdgplpdefaaDoor
