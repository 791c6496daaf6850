/- Laws of operations that make a new block, the world behind them under a name of its own. -/
import Derived.Test.YtkaghbpdnmigmaaDoorShaM
import Derived.Great.Ranges
namespace Go.Proofs.YtkaghbpdnmigmaaDoor
open Go.RowKit

structure NewBlk (w w' : World) (t : TypeId) (cells : Array Value) : Prop where
  blk : Blk w' w.heap.size t cells
  fr : Fr Nothing w w'
  size : w'.heap.size = w.heap.size + 1
theorem NewBlk.alloc (w : World) (t : TypeId) (cells : Array Value) : NewBlk w (w.alloc (.cells cells t)) t cells := ⟨Blk.new w t cells, (Fr.refl _ _).alloc _, by simp⟩

theorem wpList_boxBlk {P : Program} {ops : Array Oper} {rest : List Oper} {o : Oper} {a : Act} {w : World} {Q : Exit → Act → World → Prop} (hg : o.guard = none) (t : TypeId) (x : Operand) (ho : o.op = .box t x) (cells : Array Value) (hx : (a.eval x).cells = cells)
    (h : ∀ w', NewBlk w w' t cells → wpList P ops Q rest (a.put o.dst (.pointer (some ⟨w.heap.size, 0, none⟩))) w') : wpList P ops Q (o :: rest) a w :=
  Great.wpList_boxTo hg t x ho _ rfl _ rfl cells hx (h _ (NewBlk.alloc w t cells))

theorem wpList_allocBlk {P : Program} {ops : Array Oper} {rest : List Oper} {o : Oper} {a : Act} {w : World} {Q : Exit → Act → World → Prop} (hg : o.guard = none) (t : TypeId) (ho : o.op = .alloc t) (z : Value) (hz : ∀ w, (zeroValue t).run P w = .ok z w) (cells : Array Value) (hc : z.cells = cells)
    (h : ∀ w', NewBlk w w' t cells → wpList P ops Q rest (a.put o.dst (.pointer (some ⟨w.heap.size, 0, none⟩))) w') : wpList P ops Q (o :: rest) a w := by
  subst hc
  refine wpList_plain hg fun K hK => ?_
  unfold Oper.wp execOp
  simp only [ho, Instr.alloc, Sem.run_bind, hz, newVar, newRow, run_newObj_alloc, Sem.run_pure, Result.andThen_ok]
  exact hK _ _ (h _ (NewBlk.alloc w t z.cells))

theorem wpList_storeBlk {P : Program} {ops : Array Oper} {rest : List Oper} {o : Oper} {a : Act} {w : World} {Q : Exit → Act → World → Prop} (hgd : o.guard = none) (ty : TypeId) (x y : Operand) (ho : o.op = .store ty x y)
    (g : Nat) (cells : Array Value) (hx : a.eval x = .pointer (some ⟨g, 0, none⟩)) (hy : a.eval y = .agg cells)
    (t : TypeId) (old : Array Value) (hg : Blk w g t old) (hi : (P.info? ty).map (·.size) = some cells.size)
    (hold : old.size = cells.size) (h1 : cells.all (·.oneCell') = true)
    (h : ∀ w', Blk w' g t cells → Fr (fun k => k = g) w w' → wpList P ops Q rest (a.put o.dst undef) w') : wpList P ops Q (o :: rest) a w :=
  wpList_store_row hgd ty x y ho g cells hx hy t old hg hi hold h1 (h _ (heap_setRow_same hg) ((Fr.refl (fun k => k = g) w).setRow (fun _ => rfl) cells))
end Go.Proofs.YtkaghbpdnmigmaaDoor
