/- Cells of a row, many at once: copy from a string, clear. -/
import Derived.Test.YtkaghbpdnmigmaaDoorApp
import Derived.Lib.LazyBuf
import Derived.Lib.SliceRun
import Derived.Lib.ReflectliteSwap
import Derived.Laws.Rows
import Derived.Laws.Tables
import Derived.Test.YtkaghbpdnmigmaaDoorShaP
namespace Go.Proofs.YtkaghbpdnmigmaaDoor
open Go.RowKit

theorem Blk.setCells {g : Nat} {t : TypeId} : ∀ (vs : List Value) (o : Nat) (w : World) (cs : List Value), Blk w g t cs.toArray → o + vs.length ≤ cs.length →
    Blk (w.setCells g o vs) g t (cs.take o ++ vs ++ cs.drop (o + vs.length)).toArray
  | [], o, w, cs, h, _ => by simpa [World.setCells] using h
  | v :: r, o, w, cs, h, hl => by
    have h1 := h.set_ o v
    rw [List.setIfInBounds_toArray] at h1
    simp only [List.length_cons] at hl
    have h2 := Blk.setCells r (o + 1) _ (cs.set o v) h1 (by rw [List.length_set]; omega)
    refine (congrArg (Blk _ g t) ?_).mp h2
    congr 1
    have e1 : (cs.set o v).take (o + 1) = cs.take o ++ [v] := by
      rw [List.take_set, List.take_succ_eq_append_getElem (by omega : o < cs.length), List.set_append_right _ _ (by simp; omega)]
      simp
      rw [show o - min o cs.length = 0 by omega]
      rfl
    have e2 : (cs.set o v).drop (o + 1 + r.length) = cs.drop (o + (v :: r).length) := by
      rw [List.drop_set_of_lt (by omega)]
      congr 1
      simp only [List.length_cons]; omega
    rw [e1, e2]
    simp

theorem Fr.setCells {T : Nat → Prop} {g : Nat} {a : World} (hg : g < a.heap.size → T g) : ∀ (vs : List Value) (o : Nat) (w : World), Fr T a w → Fr T a (w.setCells g o vs)
  | [], _, _, h => h
  | v :: r, o, _, h => Fr.setCells hg r (o + 1) _ (h.setCell (p := ⟨g, o, none⟩) hg v)

/-- 'copy(dst, s)', s a string of any length. -/
theorem run_copy_str {P : Program} (w : World) (dT sT ty elem : TypeId) (b o dLen dCap : Nat) (t : ByteArray)
    (hu : P.underlying dT = some (.slice elem)) (hz : ∀ w, (Go.sizeOf elem).run P w = .ok 1 w) (n : Nat) (hn : Nat.min t.size dLen = n)
    (hc : ∀ j, j < n → (w.cell? ⟨b, o + j, none⟩).isSome = true) (hf : ∀ j, j < n → w.frozen? ⟨b, o + j, none⟩ = false) :
    (Builtin.copy_ #[dT, sT] ty #[.slice (some ⟨b, o, none⟩) dLen dCap, .string t]).run P w = .ok (goInt n) (w.setCells b o ((t.data.toList.map fun x => Value.int .u8 (x.toNat : Int)).take n)) := by
  have hl : ((t.data.toList.map fun x => Value.int .u8 (x.toNat : Int)).take n).length = n := by
    rw [List.length_take, List.length_map, ← Lib.size_eq]
    have : Nat.min t.size dLen ≤ t.size := Nat.min_le_left _ _
    omega
  have hst := run_storeCells_cells (P := P) b o ((t.data.toList.map fun x => Value.int .u8 (x.toNat : Int)).take n) 0 w (by rw [hl]; simpa using hc) (by rw [hl]; simpa using hf) (by
    intro v hv
    obtain ⟨x, _, rfl⟩ := List.mem_map.1 (List.mem_of_mem_take hv)
    rfl)
  simp [Builtin.copy_, run_underlying hu, Builtin.lenOf, Builtin.firstCells, hz, hn]
  rw [hst]
  rfl
def u32v (n : Nat) : Value := .int .u32 (n : Int)
def Same' (w : World) (v : Value) (e : Ending) (w' : World) : Prop := e = .returned v ∧ Fr Nothing w w'

theorem heap_setRow_same {w : World} {g : Nat} {t : TypeId} {old cs : Array Value} (h : Blk w g t old) : Blk (w.setRow g cs) g t cs := by
  unfold Blk at h ⊢
  simp [World.setRow, Array.getElem?_modify, h]

theorem wpList_buildTo {P : Program} {ops : Array Oper} {rest : List Oper} {o : Oper} {a : Act} {w : World} {Q : Exit → Act → World → Prop} (hg : o.guard = none) (t : TypeId) (parts : Array (Nat × Operand)) (ho : o.op = .build t parts) (cells : Array Value)
    (hf : P.built t (parts.map fun (i, x) => (i, a.eval x)).toList = some cells) (h : wpList P ops Q rest (a.put o.dst (.agg cells)) w) : wpList P ops Q (o :: rest) a w :=
  wpList_build hg t parts ho (by rw [hf]; rfl) (by rw [hf]; exact h)
theorem Fr.setRow {T : Nat → Prop} {a w : World} (h : Fr T a w) {g : Nat} (hg : g < a.heap.size → T g) (cs : Array Value) : Fr T a (w.setRow g cs) := by
  refine h.then_ (T' := fun k => k = g) ⟨rfl, rfl, rfl, by simp [World.setRow], fun k _ ht => ?_⟩ (fun i hi e => by subst e; exact hg hi)
  simp [World.setRow, Array.getElem?_modify, Ne.symm ht]
def stV (s : St8) : List Value := [u32v s.a, u32v s.b, u32v s.c, u32v s.d, u32v s.e, u32v s.f, u32v s.g, u32v s.h]
def bvI (x : UInt8) : Value := .int .u8 (x.toNat : Int)
end Go.Proofs.YtkaghbpdnmigmaaDoor
