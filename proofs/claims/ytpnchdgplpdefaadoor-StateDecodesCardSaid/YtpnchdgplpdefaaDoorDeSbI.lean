/- State: changes step by step; the reference's Apply (written by genSbK.py). -/
import Derived.Test.YtpnchdgplpdefaaDoorDeSbG
import Derived.Test.YtpnchdgplpdefaaDoorDeSbF
namespace Go.Proofs.YtpnchdgplpdefaaDoor
open Go.RowKit Go.Shelf
def entZ : Value := .agg #[.int .i64 0, .string ByteArray.empty, .int .i64 0, .int .i64 0, .string ByteArray.empty, .string ByteArray.empty]
theorem zinfoE : (Tryd.prog.info? 54).map (fun i => (i.zero, i.size, i.bytes)) = some (some entZ, 6, 72) := by kernel_rfl
theorem builtE (n : NameV) (v : ByteArray) : Tryd.prog.built 54 [(0, .agg n.cells.toArray), (1, .string v)] = some (entC (n, v)).toArray := by kernel_rfl
theorem foldl6 (cs b : Array Value) (hc : cs.size = 6) (hb : b.size = 6) : Instr.fill (fun i => some (i * 6, 6)) b [(0, .agg cs)] = some cs := by
 have hf := fold_arr cs b 0 (by omega)
 simp only [Instr.fill, Value.cells, hc, hb, Nat.zero_mul, Nat.zero_add, ne_eq, not_true_eq_false, decide_false, Bool.false_or, gt_iff_lt, Nat.lt_irrefl, Bool.false_eq_true, if_false]
 simp only [Nat.zero_add, List.take_zero, List.nil_append, hc] at hf
 rw [List.drop_of_length_le (by simp [hb]), List.append_nil] at hf
 rw [hf]
theorem entC_one (x : Ent) : ∀ u ∈ entC x, u.oneCell' = true := fun u hu => by
 simp [entC, NameV.cells] at hu
 rcases hu with rfl | rfl | rfl | rfl | rfl | rfl <;> rfl
structure NewE (w0 w : World) (v : Value) (L : List Ent) : Prop where
 row : RowE w v L
 new : ∀ k, v.ownBlock = some k → w0.heap.size ≤ k
theorem NewE.fr0 {w0 w w' : World} {v : Value} {L : List Ent} (h : NewE w0 w v L) (hf : Fr Nothing w w') : NewE w0 w' v L := ⟨h.row.fr0 hf, h.new⟩
theorem NewE.grew {w0 w w' : World} {v v' : Value} {L M : List Ent} {n : Nat} (h : NewE w0 w v L) (h0 : Fr Nothing w0 w) (hg : Grew 54 6 w v w' v' n (L.flatMap entC ++ M.flatMap entC)) (hn : n = L.length + M.length) : NewE w0 w' v' (L ++ M) ∧ Fr Nothing w0 w' := by
 subst hn
 refine ⟨⟨?_, fun k hk => ?_⟩, h0.then_ hg.fr (fun i hi e => by have := h.new i e; omega)⟩
 ·unfold RowE
  rw [List.length_append, List.flatMap_append]
  exact hg.own
 ·rcases hg.lies k hk with h1 | h1
  ·exact h.new k h1
  ·have := h0.size
   omega
end Go.Proofs.YtpnchdgplpdefaaDoor
namespace Go.Proofs.YtpnchdgplpdefaaDoor
open Go.RowKit Go.Shelf
def nextC (c : CV) (L : List Ent) : List Ent := if c.absent then delL c.nm L else insL c.nm c.value L
def runC (xs : List CV) (L : List Ent) : List Ent := xs.foldl (fun l c => nextC c l) L
def stepC (c : CV) (L : List Ent) : List Ent := if okNm c.nm then nextC c L else L
structure SmallC (c : CV) : Prop where
 owner : c.nm.owner.size ≤ 100
 text : c.nm.text.size ≤ 100
 value : c.value.size ≤ 200
structure GoodK (k : Nat) (L : List Ent) : Prop where
 sort : SortL L
 len : L.length ≤ k
 ok : ∀ x ∈ L, okNm x.1 = true
 owner : ∀ x ∈ L, x.1.owner.size ≤ 100
 text : ∀ x ∈ L, x.1.text.size ≤ 100
 value : ∀ x ∈ L, x.2.size ≤ 200
theorem GoodK.nil : GoodK 0 [] := ⟨List.Pairwise.nil, Nat.le_refl _, (fun _ h => by cases h), (fun _ h => by cases h), (fun _ h => by cases h), (fun _ h => by cases h)⟩
theorem bytesL_le : ∀ L : List Ent, (∀ x ∈ L, x.2.size ≤ 200) → bytesL L ≤ 200 * L.length
 | [], _ => by simp [bytesL]
 | x :: L, h => by
  have h1 := bytesL_le L (fun y hy => h y (List.mem_cons_of_mem _ hy))
  have h2 := h x (List.mem_cons_self ..)
  simp only [bytesL, List.map_cons, List.sum_cons, List.length_cons] at h1 ⊢
  omega
theorem GoodK.good {k : Nat} {L : List Ent} (h : GoodK k L) (hk : k ≤ 60000) : GoodL L :=
 ⟨h.sort, fun x hx => by have := h.owner x hx; omega, by have := h.len; omega, by have := bytesL_le L h.value; have := h.len; omega, h.ok⟩
theorem GoodK.more {k k' : Nat} {L : List Ent} (h : GoodK k L) (hk : k ≤ k') : GoodK k' L := ⟨h.sort, by have := h.len; omega, h.ok, h.owner, h.text, h.value⟩
theorem GoodK.next {k : Nat} {L : List Ent} {c : CV} (h : GoodK k L) (hc : SmallC c) (ho : okNm c.nm = true) : GoodK (k + 1) (nextC c L) := by
 unfold nextC
 cases c.absent
 ·rw [if_neg (by decide)]
  have hm := (insL_sort (nm := c.nm) (v := c.value) h.sort).2
  refine ⟨(insL_sort h.sort).1, by have := (insL_size (nm := c.nm) (v := c.value) L).1; have := h.len; omega, fun x hx => ?_, fun x hx => ?_, fun x hx => ?_, fun x hx => ?_⟩
  ·rcases hm x hx with rfl | h1
   ·exact ho
   ·exact h.ok x h1
  ·rcases hm x hx with rfl | h1
   ·exact hc.owner
   ·exact h.owner x h1
  ·rcases hm x hx with rfl | h1
   ·exact hc.text
   ·exact h.text x h1
  ·rcases hm x hx with rfl | h1
   ·exact hc.value
   ·exact h.value x h1
 ·rw [if_pos rfl]
  have hm := (delL_sub (nm := c.nm) L).subset
  exact ⟨delL_sort h.sort, by have := (delL_size (nm := c.nm) L).1; have := h.len; omega, fun x hx => h.ok x (hm hx), fun x hx => h.owner x (hm hx), fun x hx => h.text x (hm hx), fun x hx => h.value x (hm hx)⟩
theorem GoodK.step {k : Nat} {L : List Ent} {c : CV} (h : GoodK k L) (hc : SmallC c) : GoodK (k + 1) (stepC c L) := by
 unfold stepC
 cases ho : okNm c.nm
 ·exact h.more (by omega)
 ·exact h.next hc ho
theorem SmallC.name {c : CV} (h : SmallC c) : GoodN c.nm := ⟨by have := h.owner; omega, by have := h.text; omega⟩
def RApplied (w : World) (L : List Ent) (xs : List CV) (e : Ending) (w' : World) : Prop := ∃ p k, e = .returned (.tuple #[p, .int .i64 k]) ∧ Fr Nothing w w' ∧
 (((∀ c ∈ xs, okNm c.nm = true) ∧ k = 0 ∧ RowE w' p (runC xs L)) ∨ ((∃ c ∈ xs, okNm c.nm = false) ∧ k = 12 ∧ p = .slice none 0 0))
end Go.Proofs.YtpnchdgplpdefaaDoor
