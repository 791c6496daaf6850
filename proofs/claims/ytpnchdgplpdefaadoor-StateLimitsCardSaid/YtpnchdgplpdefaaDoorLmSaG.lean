/- State: the laws' To: written by genSaG.py. -/
import Derived.Test.YtpnchdgplpdefaaDoorLmSaF
namespace Go.Proofs.YtpnchdgplpdefaaDoor
open Go.RowKit
theorem wpList_storeOne {P : Program} {ops : Array Oper} {rest : List Oper} {o : Oper} {a : Act} {w : World} {Q : Exit → Act → World → Prop} (hgd : o.guard = none) (ty : TypeId) (x y : Operand) (ho : o.op = .store ty x y)
  (g f : Nat) (v : Value) (hx : a.eval x = .pointer (some ⟨g, f, none⟩)) (hy : a.eval y = v) (h1 : v.oneCell' = true) (hi : (P.info? ty).map (·.size) = some 1)
  (t : TypeId) (cs cs' : Array Value) (hB : Blk w g t cs) (hf : f < cs.size) (hcs : cs.setIfInBounds f v = cs')
  (h : ∀ w', Blk w' g t cs' → Fr (fun k => k = g) w w' → wpList P ops Q rest (a.put o.dst undef) w') : wpList P ops Q (o :: rest) a w := by
 subst hcs
 obtain ⟨ie, hie, hs⟩ : ∃ ie, P.info? ty = some ie ∧ ie.size = 1 := by
  cases he : P.info? ty with
  | none => rw [he] at hi; cases hi
  | some ie => rw [he] at hi; exact ⟨ie, rfl, by simpa using hi⟩
 have hrun := Lib.rl_storeVar_one (P := P) ty ie hie hs ⟨g, f, none⟩ v (cs[f]) h1 w (by rw [hB.cell]; simp [hf]) (hB.frozen _)
 refine wpList_plain hgd fun K hK => ?_
 unfold Oper.wp execOp
 simp only [ho, hx, hy, Instr.storeAt, Instr.sureAddr, Sem.run_bind, Sem.run_pure, Result.andThen_ok, hrun]
 exact hK _ _ (h _ (hB.set_ f v) (Fr.setCell (T := fun k => k = g) (Fr.refl _ w) (fun _ => rfl) v))
theorem wp_storeOne {P : Program} {o : Oper} {a : Act} {w : World} {K : Act → World → Prop} {Q : Exit → Act → World → Prop} (ty : TypeId) (x y : Operand) (ho : o.op = .store ty x y)
  (g f : Nat) (v : Value) (hx : a.eval x = .pointer (some ⟨g, f, none⟩)) (hy : a.eval y = v) (h1 : v.oneCell' = true) (hi : (P.info? ty).map (·.size) = some 1)
  (t : TypeId) (cs cs' : Array Value) (hB : Blk w g t cs) (hf : f < cs.size) (hcs : cs.setIfInBounds f v = cs')
  (h : ∀ w', Blk w' g t cs' → Fr (fun k => k = g) w w' → K (a.put o.dst undef) w') : o.wp P a w K Q := by
 subst hcs
 obtain ⟨ie, hie, hs⟩ : ∃ ie, P.info? ty = some ie ∧ ie.size = 1 := by
  cases he : P.info? ty with
  | none => rw [he] at hi; cases hi
  | some ie => rw [he] at hi; exact ⟨ie, rfl, by simpa using hi⟩
 have hrun := Lib.rl_storeVar_one (P := P) ty ie hie hs ⟨g, f, none⟩ v (cs[f]) h1 w (by rw [hB.cell]; simp [hf]) (hB.frozen _)
 unfold Oper.wp execOp
 simp only [ho, hx, hy, Instr.storeAt, Instr.sureAddr, Sem.run_bind, Sem.run_pure, Result.andThen_ok, hrun]
 exact h _ (hB.set_ f v) (Fr.setCell (T := fun k => k = g) (Fr.refl _ w) (fun _ => rfl) v)
structure CV where
 nm : NameV
 value : ByteArray
 absent : Bool
def CV.cells (c : CV) : List Value := c.nm.cells ++ [.string c.value, .bool c.absent]
theorem CV.cells_length (c : CV) : c.cells.length = 7 := rfl
def cutS (s : ByteArray) (k : Int) : ByteArray := s.extract 0 (min (s.size : Int) k).toNat
def CV.cut (c : CV) : CV := ⟨⟨c.nm.kind, cutS c.nm.owner 100, c.nm.number, c.nm.index, cutS c.nm.text 100⟩, cutS c.value 200, c.absent⟩
theorem infoStr : (Tryd.prog.info? 9).map (·.size) = some 1 := by kernel_rfl
theorem CV.one (c : CV) : c.cells.toArray.all (·.oneCell') = true := by
 simp [CV.cells, NameV.cells, Value.oneCell']
theorem NameV.one (n : NameV) : n.cells.toArray.all (·.oneCell') = true := by
 simp [NameV.cells, Value.oneCell']
theorem flat7 : ∀ (xs : List CV) (k : Nat) (c : CV), xs[k]? = some c → ∀ j x, c.cells[j]? = some x → (xs.flatMap CV.cells)[k * 7 + j]? = some x
 | [], _, _, h, _, _, _ => by simp at h
 | y :: ys, 0, c, h, j, x, hx => by
  simp only [List.getElem?_cons_zero, Option.some.injEq] at h
  subst h
  have hj : j < 7 := (List.getElem?_eq_some_iff.1 hx).1
  rw [List.flatMap_cons, Nat.zero_mul, Nat.zero_add, List.getElem?_append_left hj]
  exact hx
 | y :: ys, k + 1, c, h, j, x, hx => by
  rw [List.flatMap_cons, List.getElem?_append_right (by rw [CV.cells_length]; omega), CV.cells_length, show (k + 1) * 7 + j - 7 = k * 7 + j by omega]
  exact flat7 ys k c (by simpa using h) j x hx
structure CL (w : World) (S : Nat → Prop) (A : Option Addr) (n : Nat) (xs : List CV) : Prop where
 rd : Rd w S 7 A n (xs.flatMap CV.cells)
 len : xs.length = n
theorem CL.fr0 {w w' : World} {S : Nat → Prop} {A : Option Addr} {n : Nat} {xs : List CV} (h : CL w S A n xs) (hf : Fr Nothing w w') : CL w' S A n xs := ⟨h.rd.fr0 hf, h.len⟩
theorem CL.at_ {w : World} {S : Nat → Prop} {A : Option Addr} {n k : Nat} {xs : List CV} (h : CL w S A n xs) (hk : k < n) : ∃ ad c, A = some ad ∧ xs[k]? = some c ∧ ∀ j x, c.cells[j]? = some x → w.cell? ((ad.add (k * 7)).add j) = some x := by
 obtain ⟨ad, e, hb, hc⟩ := h.rd.2 (by omega)
 have hkl : k < xs.length := by rw [h.len]; exact hk
 refine ⟨ad, xs[k], e, List.getElem?_eq_getElem hkl, fun j x hx => ?_⟩
 rw [add_of_add]
 exact hc _ x (flat7 xs k xs[k] (List.getElem?_eq_getElem hkl) j x hx)
end Go.Proofs.YtpnchdgplpdefaaDoor
