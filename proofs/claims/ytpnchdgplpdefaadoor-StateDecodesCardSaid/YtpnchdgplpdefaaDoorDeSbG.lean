/- A region whose operations all yield values known before: no facts, values only. Plain lemmas over any program. -/
import Derived.Test.YtpnchdgplpdefaaDoorDeSbE
import Derived.Test.YtpnchdgplpdefaaDoorDeSbC
import Derived.ArgAppend
import Derived.Test.YtpnchdgplpdefaaDoorDeGwB
namespace Go.Proofs.YtpnchdgplpdefaaDoor
open Go.RowKit Go.Shelf
def entC (x : Ent) : List Value := x.1.cells ++ [.string x.2]
theorem entC_length (x : Ent) : (entC x).length = 6 := rfl
theorem flat6 : ∀ (xs : List Ent) (k : Nat) (c : Ent), xs[k]? = some c → ∀ j x, (entC c)[j]? = some x → (xs.flatMap entC)[k * 6 + j]? = some x
 | [], _, _, h, _, _, _ => by simp at h
 | y :: ys, 0, c, h, j, x, hx => by
  simp only [List.getElem?_cons_zero, Option.some.injEq] at h
  subst h
  have hj : j < 6 := (List.getElem?_eq_some_iff.1 hx).1
  rw [List.flatMap_cons, Nat.zero_mul, Nat.zero_add, List.getElem?_append_left hj]
  exact hx
 | y :: ys, k + 1, c, h, j, x, hx => by
  simp only [List.getElem?_cons_succ] at h
  rw [List.flatMap_cons, List.getElem?_append_right (by rw [entC_length]; omega), entC_length, show (k + 1) * 6 + j - 6 = k * 6 + j by omega]
  exact flat6 ys k c h j x hx
structure EL (w : World) (S : Nat → Prop) (A : Option Addr) (n : Nat) (xs : List Ent) : Prop where
 rd : Rd w S 6 A n (xs.flatMap entC)
 len : xs.length = n
theorem EL.fr0 {w w' : World} {S : Nat → Prop} {A : Option Addr} {n : Nat} {xs : List Ent} (h : EL w S A n xs) (hf : Fr Nothing w w') : EL w' S A n xs := ⟨h.rd.fr0 hf, h.len⟩
theorem EL.at_ {w : World} {S : Nat → Prop} {A : Option Addr} {n k : Nat} {xs : List Ent} (h : EL w S A n xs) (hk : k < n) : ∃ ad c, A = some ad ∧ xs[k]? = some c ∧ ∀ j x, (entC c)[j]? = some x → w.cell? ((ad.add (k * 6)).add j) = some x := by
 obtain ⟨ad, e, hb, hc⟩ := h.rd.2 (by omega)
 have hkl : k < xs.length := by rw [h.len]; exact hk
 refine ⟨ad, xs[k], e, List.getElem?_eq_getElem hkl, fun j x hx => ?_⟩
 rw [Addr.add_add]
 exact hc _ _ (flat6 xs k _ (List.getElem?_eq_getElem hkl) j x hx)
theorem wp_binAgg {P : Program} {op : Oper} {a : Act} {w : World} {K : Act → World → Prop} {Q : Exit → Act → World → Prop} (o : BinOp) (t : TypeId) (x y : Operand) (ty : TypeId) (ho : op.op = .binOp o t x y ty)
  (xs ys : Array Value) (hx : a.eval x = .agg xs) (hy : a.eval y = .agg ys) (hg : P.eqGuardType P.depth t = false)
  (v : Value) (hr : (binOp o t (.agg xs) (.agg ys)).run P w = .ok v w) (h : K (a.put op.dst v) w) : op.wp P a w K Q := by
 have he := run_eqGuard_agg (P := P) (w := w) o t x y xs ys hg
 unfold Oper.wp execOp
 simp only [ho, hx, hy, Sem.run_bind, he, hr, Result.andThen_ok]
 exact h
end Go.Proofs.YtpnchdgplpdefaaDoor
namespace Go.Proofs.YtpnchdgplpdefaaDoor
open Go.RowKit Go.Shelf
def RowE (w : World) (v : Value) (L : List Ent) : Prop := w.ownsRow 0 54 6 v L.length (L.flatMap entC)
theorem RowE.fr0 {w w' : World} {v : Value} {L : List Ent} (h : RowE w v L) (hf : Fr Nothing w w') : RowE w' v L := own_fr h hf (fun _ _ x => x)
theorem RowE.nil (w : World) : RowE w (.slice none 0 0) [] := ⟨rfl, .inl ⟨rfl, rfl⟩⟩
theorem RowE.el {w : World} {A : Option Addr} {n c : Nat} {L : List Ent} (h : RowE w (.slice A n c) L) : n = L.length ∧ EL w (fun _ => True) A n L ∧ n ≤ c := by
 obtain ⟨A', m, c', e, hm, hc⟩ := own_slice h
 cases e
 have hm' := hm.out
 subst hm'
 exact ⟨rfl, ⟨(Rd.of_own h).any, rfl⟩, hc.out⟩
theorem RowE.form {w : World} {v : Value} {L : List Ent} (h : RowE w v L) : (v = .slice none 0 0 ∧ L = []) ∨ ∃ g c, v = .slice (some ⟨g, 0, none⟩) L.length c ∧ L.length ≤ c ∧ c ≤ maxLen := by
 rcases h.2 with ⟨rfl, h0⟩ | ⟨g, cap, cur, rfl, _, _, h1, h2, _⟩
 ·left
  refine ⟨rfl, List.length_eq_zero_iff.1 ?_⟩
  omega
 ·exact .inr ⟨g, cap, rfl, h1, h2⟩
theorem flatMap_entC_len (L : List Ent) : (L.flatMap entC).length = L.length * 6 := by
 induction L with
 | nil => rfl
 | cons x L ih => rw [List.flatMap_cons, List.length_append, ih, entC_length, List.length_cons]; omega
theorem flatMap_take (L : List Ent) (k : Nat) : (L.take k).flatMap entC = (L.flatMap entC).take (k * 6) := by
 induction L generalizing k with
 | nil => simp
 | cons x L ih =>
  cases k with
  | zero => simp
  | succ k =>
   rw [List.take_succ_cons, List.flatMap_cons, List.flatMap_cons, ih, List.take_append, entC_length, show (entC x).take ((k + 1) * 6) = entC x from List.take_of_length_le (by rw [entC_length]; omega), show (k + 1) * 6 - 6 = k * 6 by omega]
theorem flatMap_drop (L : List Ent) (k : Nat) : (L.drop k).flatMap entC = (L.flatMap entC).drop (k * 6) := by
 induction L generalizing k with
 | nil => simp
 | cons x L ih =>
  cases k with
  | zero => simp
  | succ k =>
   rw [List.drop_succ_cons, List.flatMap_cons, ih, List.drop_append, entC_length, show (entC x).drop ((k + 1) * 6) = [] from List.drop_of_length_le (by rw [entC_length]; omega), List.nil_append, show (k + 1) * 6 - 6 = k * 6 by omega]
theorem EL.take {w : World} {S : Nat → Prop} {A : Option Addr} {n k : Nat} {L : List Ent} (h : EL w S A n L) (hk : k ≤ n) : Rd w S 6 A k ((L.take k).flatMap entC) := by
 refine ⟨by rw [flatMap_entC_len, List.length_take, h.len]; omega, fun h0 => ?_⟩
 obtain ⟨ad, e, hs, hc⟩ := h.rd.2 (by omega)
 refine ⟨ad, e, hs, fun j u hu => hc j u ?_⟩
 rw [flatMap_take] at hu
 have hj := (List.getElem?_eq_some_iff.1 hu).1
 rw [List.getElem?_take_of_lt (by rw [List.length_take] at hj; omega)] at hu
 exact hu
theorem EL.drop {w : World} {S : Nat → Prop} {ad : Addr} {n k : Nat} {L : List Ent} (h : EL w S (some ad) n L) (hk : k ≤ n) : Rd w S 6 (some (ad.add (k * 6))) (n - k) ((L.drop k).flatMap entC) := by
 refine ⟨by rw [flatMap_entC_len, List.length_drop, h.len], fun h0 => ?_⟩
 obtain ⟨ad', e, hs, hc⟩ := h.rd.2 (by omega)
 cases e
 refine ⟨_, rfl, by unfold Addr.add; split <;> exact hs, fun j u hu => ?_⟩
 rw [Addr.add_add]
 refine hc _ u ?_
 rw [flatMap_drop, List.getElem?_drop] at hu
 exact hu
end Go.Proofs.YtpnchdgplpdefaaDoor
namespace Go.Proofs.YtpnchdgplpdefaaDoor
open Go.RowKit
theorem StableL.is {T : Nat → Prop} {w : World} : ∀ V : List Value, StableL T w (V.map Is)
 | [] => trivial
 | x :: r => ⟨Is.stable x, StableL.is r⟩
theorem factOf_is : ∀ (V : List Value) (j : Nat) (w : World), factOf (V.map Is) j (V.getD j undef) w
 | [], _, _ => trivial
 | _ :: _, 0, _ => rfl
 | _ :: r, j + 1, w => factOf_is r j w
theorem factOf_val : ∀ (V : List Value) (j : Nat) (v : Value) (w : World), j < V.length → factOf (V.map Is) j v w → v = V.getD j undef
 | _ :: _, 0, _, _, _, h => h
 | _ :: r, j + 1, v, w, hj, h => factOf_val r j v w (by simpa using hj) h
def OneIs (a : Act) (d : Option Tmp) (w : World) (v : Value) (a' : Act) (w' : World) : Prop := a' = a.put d v ∧ Fr Nothing w w'
def headIs (P : Program) (ops : Array Oper) (Q : Exit → Act → World → Prop) (w : World) (F : (Nat → Value) → Act) (V : List Value) : Nat → List Oper → Prop
 | _, [] => True
 | i, o :: r => (∀ u w', Fr Nothing w w' → (∀ j, Region.waitsFor .any ops i j = true → factOf (V.map Is) j (u j) w') → wpW P ops Q o (F u) w' (OneIs (F u) o.dst w' (V.getD i undef))) ∧ headIs P ops Q w F V (i + 1) r
theorem headIs.st {P : Program} {ops : Array Oper} {Q : Exit → Act → World → Prop} {w : World} {F : (Nat → Value) → Act} {V : List Value} {n : Nat} : ∀ {l : List Oper} {i : Nat}, headIs P ops Q w F V i l → headSt P ops Q Nothing w F (factOf (V.map Is)) [] (fun _ => True) (fun _ _ => false) n i l
 | [], _, _ => trivial
 | _ :: _, i, h => ⟨fun u w' _ hf hR _ _ _ => wpW_mono (fun _ w'' ⟨e, f⟩ => ⟨_, e, f, factOf_is V i w'', trivial⟩) (h.1 u w' hf hR), headIs.st h.2⟩
theorem skS {P : Program} {ops : Array Oper} {Q : Exit → Act → World → Prop} {o : Oper} {a : Act} {w : World} (h : Region.wanted o (yielded ops a.tmps) = false) : wpW P ops Q o a w (OneIs a o.dst w undef) := .inr ⟨h, rfl, Fr.refl _ _⟩
theorem puts_is (ds : List (Option Tmp)) (V : List Value) (u : Nat → Value) (a : Act) (hl : ds.length ≤ V.length) (h : ∀ j, j < V.length → u j = V.getD j undef) : puts ds 0 u a = puts ds 0 (fun j => V.getD j undef) a := by
 have : ∀ (ds : List (Option Tmp)) (k : Nat) (a : Act), k + ds.length ≤ V.length → puts ds k u a = puts ds k (fun j => V.getD j undef) a := by
  intro ds
  induction ds with
  | nil => intro k a _; rfl
  | cons d r ih =>
   intro k a hk
   simp only [List.length_cons] at hk
   rw [puts, puts, h k (by omega)]
   exact ih (k + 1) _ (by omega)
 exact this ds 0 a (by omega)
theorem wp_is {P : Program} {id : Nat} {Q : Exit → Act → World → Prop} {a : Act} {w : World} {l : List Oper} (n : Nat) (V : List Value) (hn : V.length = n) (hm : P.follows .mixedOrders = true) (hg : growS l.toArray n = true) (hB : beforeB l.toArray n (fun _ _ => false) = true)
  (hh : headIs P l.toArray Q w (fun u => puts ((l.take n).map (·.dst)) 0 u a) V 0 (l.take n))
  (ht : ∀ w', Fr Nothing w w' → wpList P l.toArray Q (l.drop n) (puts ((l.take n).map (·.dst)) 0 (fun j => V.getD j undef) a) w') : (Code.region id l.toArray true).wp P Q a w := by
 refine wp_region_st n Nothing (V.map Is) [] (fun _ => True) (fun _ _ => false) hm hg hB (by simp [chainP]) (StableL.is V) trivial (fun _ _ _ _ h => h) trivial hh.st ?_
 intro u w' hf hR _
 rw [puts_is _ V u a (by rw [hn, List.length_map, List.length_take]; omega) (fun j hj => factOf_val V j (u j) w' hj (hR j (by omega)))]
 exact ht w' hf
theorem wq_is {P : Program} {id : Nat} {Q : Exit → Act → World → Prop} {a : Act} {w : World} {l : List Oper} (n : Nat) (V : List Value) (hn : V.length = n) (hg : growQ l.toArray n = true) (hB : beforeB l.toArray n (fun _ _ => false) = true)
  (hh : headIs P l.toArray Q w (fun u => puts ((l.take n).map (·.dst)) 0 u a) V 0 (l.take n))
  (ht : ∀ w', Fr Nothing w w' → wpList P l.toArray Q (l.drop n) (puts ((l.take n).map (·.dst)) 0 (fun j => V.getD j undef) a) w') : (Code.region id l.toArray false).wp P Q a w := by
 refine wp_region_sq n Nothing (V.map Is) [] (fun _ => True) (fun _ _ => false) hg hB (by simp [chainP]) (StableL.is V) trivial (fun _ _ _ _ h => h) trivial hh.st ?_
 intro u w' hf hR _
 rw [puts_is _ V u a (by rw [hn, List.length_map, List.length_take]; omega) (fun j hj => factOf_val V j (u j) w' hj (hR j (by omega)))]
 exact ht w' hf
end Go.Proofs.YtpnchdgplpdefaaDoor
