/- Arguments as they come in: one digest; a claim. -/
import Derived.Test.YtkaghbpdnmigmaaDoorLtO
namespace Go.Proofs.YtkaghbpdnmigmaaDoor
open Go.RowKit Go.ChangeShapes Go.WideShapes Go.Deep

set_option maxRecDepth 100000 in
theorem open_digarg {H : Type} {enc : TypeId × Value → H} {w : World} {r : Reach} {b fuel : Nat} {v : Value} {x : DataW H × List MemPlace} (hval : Value.okWide Tryd.prog w r b 23 v)
    (h : DataW.trod enc Tryd.prog w 0 (fun _ => true) true fuel 23 v.cells.toList = some x) : ∃ d : List UInt8, v = digV d ∧ d.length = 32 := by
  unfold Value.okWide at hval
  rw [Tryd.underlying23] at hval
  obtain ⟨⟨l⟩, rfl, _, _⟩ := hval
  obtain ⟨d, hd, hcs⟩ := open_dig h
  have : l = digC d := hcs
  subst this
  exact ⟨d, rfl, hd⟩

theorem cells40 : Tryd.prog.cellsOf 40 = 35 := by kernel_rfl
theorem cells3 : Tryd.prog.cellsOf 3 = 1 := by kernel_rfl
theorem cells22 : Tryd.prog.cellsOf 22 = 1 := by kernel_rfl

/-- A claim: a leaf, an index, a number of leaves, a path. -/
structure ClaimV where
  leaf : List UInt8
  index : Int
  n : Int
  A : Option Addr
  len : Nat
  cap : Nat
  path : List (List UInt8)
def ClaimV.val (c : ClaimV) : Value := .agg (digC c.leaf ++ [Value.int .i64 c.index, Value.int .i64 c.n, Value.slice c.A c.len c.cap]).toArray
structure ClaimV.good (c : ClaimV) (w : World) : Prop where
  leaf : c.leaf.length = 32
  index : -9223372036854775808 ≤ c.index ∧ c.index ≤ 9223372036854775807
  n : -9223372036854775808 ≤ c.n ∧ c.n ≤ 9223372036854775807
  path : DigL w (Old w) c.A c.len c.path
  le : c.len ≤ c.cap
  cap : c.cap ≤ 9223372036854775807

set_option maxRecDepth 100000 in
theorem open_claim {H : Type} {enc : TypeId × Value → H} {w : World} {r : Reach} {b fuel : Nat} {v : Value} {x : DataW H × List MemPlace} (hval : Value.okWide Tryd.prog w r b 40 v)
    (h : DataW.trod enc Tryd.prog w 0 (fun _ => true) true fuel 40 v.cells.toList = some x) : ∃ c : ClaimV, v = c.val ∧ c.good w := by
  unfold Value.okWide at hval
  rw [Tryd.underlying40] at hval
  obtain ⟨⟨l⟩, rfl, hs, _⟩ := hval
  have h' : DataW.trod enc Tryd.prog w 0 (fun _ => true) true fuel 40 l = some x := h
  obtain ⟨ys, n', _, _, hcl, hyl, hf⟩ := DataW.trod_struct Tryd.underlying40 h'
  rw [cells40] at hcl
  have hy4 : ys.length = 4 := hyl
  have g0 : DataW.trod enc Tryd.prog w 0 (fun _ => true) true n' 23 ((l.drop 0).take (Tryd.prog.cellsOf 23)) = ys[0]? := hf 0 _ rfl
  have g1 : DataW.trod enc Tryd.prog w 0 (fun _ => true) true n' 3 ((l.drop 32).take (Tryd.prog.cellsOf 3)) = ys[1]? := hf 1 _ rfl
  have g2 : DataW.trod enc Tryd.prog w 0 (fun _ => true) true n' 3 ((l.drop 33).take (Tryd.prog.cellsOf 3)) = ys[2]? := hf 2 _ rfl
  have g3 : DataW.trod enc Tryd.prog w 0 (fun _ => true) true n' 22 ((l.drop 34).take (Tryd.prog.cellsOf 22)) = ys[3]? := hf 3 _ rfl
  rw [List.getElem?_eq_getElem (by omega)] at g0
  rw [List.getElem?_eq_getElem (by omega)] at g1
  rw [List.getElem?_eq_getElem (by omega)] at g2
  rw [List.getElem?_eq_getElem (by omega)] at g3
  rw [cells23] at g0
  rw [cells3] at g1 g2
  rw [cells22] at g3
  rw [take1_drop l 32 (.int .i64 0) (by omega)] at g1
  rw [take1_drop l 33 (.int .i64 0) (by omega)] at g2
  rw [take1_drop l 34 (.int .i64 0) (by omega)] at g3
  obtain ⟨d, hd, e0⟩ := open_dig g0
  obtain ⟨a1, e1, _, b1⟩ := DataW.trod_int Tryd.underlying3 g1
  obtain ⟨a2, e2, _, b2⟩ := DataW.trod_int Tryd.underlying3 g2
  have e3 : ∃ A len cap, l.getD 34 (.int .i64 0) = .slice A len cap := by
    rcases open_slice Tryd.underlying22 g3 with ⟨hcs, _⟩ | ⟨ad, l', c', m, n, D, Pl, hcs, _⟩
    · simp only [List.cons.injEq, and_true] at hcs
      exact ⟨_, _, _, hcs⟩
    · simp only [List.cons.injEq, and_true] at hcs
      exact ⟨_, _, _, hcs⟩
  obtain ⟨A, len, cap, e3⟩ := e3
  rw [e3] at g3
  obtain ⟨ds, hD, _, hl, hc⟩ := open_digs g3
  simp only [List.cons.injEq, and_true] at e1 e2
  have hb1 := bounds_i64 b1
  have hb2 := bounds_i64 b2
  have q1 : -9223372036854775808 ≤ a1 ∧ a1 ≤ 9223372036854775807 := by omega
  have q2 : -9223372036854775808 ≤ a2 ∧ a2 ≤ 9223372036854775807 := by omega
  have hll : l = digC d ++ [Value.int .i64 a1, Value.int .i64 a2, Value.slice A len cap] := by
    have h32 : l.take 32 = digC d := by rw [← e0]; rfl
    have hd32 : l.drop 32 = [l[32]'(by omega), l[33]'(by omega), l[34]'(by omega)] := by
      rw [List.drop_eq_getElem_cons (by omega), List.drop_eq_getElem_cons (by omega), List.drop_eq_getElem_cons (by omega), List.drop_of_length_le (by omega)]
    rw [List.getD_eq_getElem?_getD, List.getElem?_eq_getElem (by omega), Option.getD_some] at e1 e2 e3
    rw [← List.take_append_drop 32 l, h32, hd32, e1, e2, e3]
  subst hll
  exact ⟨⟨d, a1, a2, A, len, cap, ds⟩, rfl, hd, q1, q2, hD, hl, hc⟩

/-- A claim for a witness. -/
def claimW : Value := .agg #[.int .u8 0, .int .u8 0, .int .u8 0, .int .u8 0, .int .u8 0, .int .u8 0, .int .u8 0, .int .u8 0, .int .u8 0, .int .u8 0, .int .u8 0, .int .u8 0, .int .u8 0, .int .u8 0, .int .u8 0, .int .u8 0, .int .u8 0, .int .u8 0, .int .u8 0, .int .u8 0, .int .u8 0, .int .u8 0, .int .u8 0, .int .u8 0, .int .u8 0, .int .u8 0, .int .u8 0, .int .u8 0, .int .u8 0, .int .u8 0, .int .u8 0, .int .u8 0, .int .i64 0, .int .i64 0, .slice none 0 0]
def claimD {H : Type} : DataW H := .agg [.agg [.lit (.int .u8 0), .lit (.int .u8 0), .lit (.int .u8 0), .lit (.int .u8 0), .lit (.int .u8 0), .lit (.int .u8 0), .lit (.int .u8 0), .lit (.int .u8 0), .lit (.int .u8 0), .lit (.int .u8 0), .lit (.int .u8 0), .lit (.int .u8 0), .lit (.int .u8 0), .lit (.int .u8 0), .lit (.int .u8 0), .lit (.int .u8 0), .lit (.int .u8 0), .lit (.int .u8 0), .lit (.int .u8 0), .lit (.int .u8 0), .lit (.int .u8 0), .lit (.int .u8 0), .lit (.int .u8 0), .lit (.int .u8 0), .lit (.int .u8 0), .lit (.int .u8 0), .lit (.int .u8 0), .lit (.int .u8 0), .lit (.int .u8 0), .lit (.int .u8 0), .lit (.int .u8 0), .lit (.int .u8 0)], .lit (.int .i64 0), .lit (.int .i64 0), .nil]
end Go.Proofs.YtkaghbpdnmigmaaDoor
