/- logtree: rootOf and Root, and the reference's Root. -/
import Derived.Test.YtkaghbpdnmigmaaDoorLtD
import Derived.Test.YtkaghbpdnmigmaaDoorGwA
namespace Go.Proofs.YtkaghbpdnmigmaaDoor
open Go.RowKit

/-- The root of a list of digests that is not empty. -/
def rootL (ds : List (List UInt8)) : List UInt8 :=
  if _h : 1 ≤ leftN ds.length ∧ leftN ds.length < ds.length then nodeD (rootL (ds.take (leftN ds.length))) (rootL (ds.drop (leftN ds.length))) else ds.headD []
termination_by ds.length
decreasing_by
  · simp only [List.length_take]; omega
  · simp only [List.length_drop]; omega
theorem rootL_one (d : List UInt8) : rootL [d] = d := by
  rw [rootL, dif_neg (by simp; omega)]
  rfl
theorem rootL_more (ds : List (List UInt8)) (n : Nat) (hl : ds.length = n) (h2 : 2 ≤ n) (hn : n ≤ 1099511627776) : rootL ds = nodeD (rootL (ds.take (leftN n))) (rootL (ds.drop (leftN n))) := by
  obtain ⟨a, _, c⟩ := leftN_bounds n h2 hn
  rw [rootL, dif_pos (by rw [hl]; exact ⟨c, a⟩), hl]
theorem rootL_length (n : Nat) : ∀ ds : List (List UInt8), ds.length = n → 1 ≤ n → n ≤ 1099511627776 → (∀ d ∈ ds, d.length = 32) → (rootL ds).length = 32 := by
  intro ds hl h1 hn hd
  by_cases h2 : 2 ≤ n
  · rw [rootL_more ds n hl h2 hn]
    exact nodeD_length _ _
  · match ds, hl, hd with
    | [d], _, hd => rw [rootL_one]; exact hd d (by simp)
    | [], hl, _ => simp at hl; omega
    | _ :: _ :: _, hl, _ => simp at hl; omega

def digC (d : List UInt8) : List Value := d.map bvI
/-- A slice of digests. -/
structure DigL (w : World) (S : Nat → Prop) (A : Option Addr) (n : Nat) (ds : List (List UInt8)) : Prop where
  rd : Rd w S 32 A n (ds.flatMap digC)
  len : ds.length = n
  each : ∀ d ∈ ds, d.length = 32
theorem DigL.fr0 {w w' : World} {S : Nat → Prop} {A : Option Addr} {n : Nat} {ds : List (List UInt8)} (h : DigL w S A n ds) (hf : Fr Nothing w w') : DigL w' S A n ds := ⟨h.rd.fr0 hf, h.len, h.each⟩
theorem DigL.fr {w w' : World} {S T : Nat → Prop} {A : Option Addr} {n : Nat} {ds : List (List UInt8)} (h : DigL w S A n ds) (hf : Fr T w w') (hd : ∀ k, S k → ¬ T k) : DigL w' S A n ds := ⟨h.rd.fr hf hd, h.len, h.each⟩
theorem flat_take (ds : List (List UInt8)) (h : ∀ d ∈ ds, d.length = 32) : ∀ k, (ds.flatMap digC).take (k * 32) = (ds.take k).flatMap digC := by
  induction ds with
  | nil => simp
  | cons d r ih =>
    intro k
    rcases k with _ | k
    · simp
    · have hd : (digC d).length = 32 := by rw [digC, List.length_map]; exact h d (by simp)
      rw [List.flatMap_cons, List.take_succ_cons, List.flatMap_cons, show (k + 1) * 32 = (digC d).length + k * 32 by omega, List.take_length_add_append, ih (fun x hx => h x (by simp [hx]))]
theorem flat_drop (ds : List (List UInt8)) (h : ∀ d ∈ ds, d.length = 32) : ∀ k, (ds.flatMap digC).drop (k * 32) = (ds.drop k).flatMap digC := by
  induction ds with
  | nil => simp
  | cons d r ih =>
    intro k
    rcases k with _ | k
    · simp
    · have hd : (digC d).length = 32 := by rw [digC, List.length_map]; exact h d (by simp)
      rw [List.flatMap_cons, List.drop_succ_cons, show (k + 1) * 32 = (digC d).length + k * 32 by omega, List.drop_length_add_append, ih (fun x hx => h x (by simp [hx]))]
theorem DigL.take {w : World} {S : Nat → Prop} {A : Option Addr} {n k : Nat} {ds : List (List UInt8)} (h : DigL w S A n ds) (hk : k ≤ n) : DigL w S A k (ds.take k) := by
  have := h.rd.take hk
  rw [flat_take ds h.each] at this
  exact ⟨this, by rw [List.length_take, h.len]; omega, fun d hd => h.each d (List.mem_of_mem_take hd)⟩
theorem DigL.cut {w : World} {S : Nat → Prop} {A : Option Addr} {n k cap : Nat} {ds : List (List UInt8)} (h : DigL w S A n ds) (hk : k ≤ n) (hc : n ≤ cap) : DigL w S (if cap = k then A else A.map (·.add (k * 32))) (n - k) (ds.drop k) := by
  have := h.rd.cut hk hc
  rw [flat_drop ds h.each] at this
  exact ⟨this, by rw [List.length_drop, h.len], fun d hd => h.each d (List.mem_of_mem_drop hd)⟩
/-- An element's cells. -/
theorem DigL.at_ {w : World} {S : Nat → Prop} {A : Option Addr} {n k : Nat} {ds : List (List UInt8)} (h : DigL w S A n ds) (hk : k < n) : ∃ ad d, A = some ad ∧ S ad.block ∧ ds[k]? = some d ∧ d.length = 32 ∧ ∀ j v, (digC d)[j]? = some v → w.cell? ((ad.add (k * 32)).add j) = some v := by
  obtain ⟨ad, e, hb, hc⟩ := h.rd.2 (by omega)
  have hkl : k < ds.length := by rw [h.len]; exact hk
  have hdl : ds[k].length = 32 := h.each _ (List.getElem_mem hkl)
  refine ⟨ad, ds[k], e, hb, List.getElem?_eq_getElem hkl, hdl, fun j v hv => ?_⟩
  rw [add_of_add]
  refine hc _ v ?_
  have hj : j < 32 := by have := (List.getElem?_eq_some_iff.1 hv).1; rw [digC, List.length_map, hdl] at this; exact this
  have hdrop : (ds.flatMap digC).drop (k * 32) = digC ds[k] ++ (ds.drop (k + 1)).flatMap digC := by
    rw [flat_drop ds h.each, List.drop_eq_getElem_cons hkl, List.flatMap_cons]
  rw [← List.getElem?_drop, hdrop, List.getElem?_append_left (by rw [digC, List.length_map, hdl]; exact hj)]
  exact hv

theorem run_loadVar_add {P : Program} (w : World) (ad : Addr) (ty : TypeId) (cs : List Value) (d : TypeDesc) (hc : ∀ j v, cs[j]? = some v → w.cell? (ad.add j) = some v)
    (hu : P.underlying ty = some d) (hd : d.isRow = true) (hi : (P.info? ty).map (·.size) = some cs.length) : (loadVar ty ad).run P w = .ok (.agg cs.toArray) w := by
  have hl : (loadCells ad cs.length).run P w = .ok cs.toArray w := run_loadCells_list (P := P) w ad cs hc
  cases hq : P.info? ty with
  | none => simp [hq] at hi
  | some i =>
    have hs : i.size = cs.length := by simpa [hq] using hi
    have hagg : (isAgg ty).run P w = .ok true w := by
      unfold isAgg
      rw [Sem.run_bind, run_underlying hu w]
      cases d <;> simp_all
    simp [loadVar, Sem.run_bind, hagg, sizeOf, typeInfo, hq, hs, hl]
theorem wp_load_add {P : Program} {op : Oper} {a : Act} {w : World} {K : Act → World → Prop} {Q : Exit → Act → World → Prop} (ty : TypeId) (x : Operand) (ho : op.op = .load ty x)
    (ad : Addr) (hx : a.eval x = .pointer (some ad)) (cs : List Value) (d : TypeDesc) (hc : ∀ j v, cs[j]? = some v → w.cell? (ad.add j) = some v)
    (hu : P.underlying ty = some d) (hd : d.isRow = true) (hi : (P.info? ty).map (·.size) = some cs.length)
    (h : K (a.put op.dst (.agg cs.toArray)) w) : op.wp P a w K Q := by
  unfold Oper.wp execOp
  simp only [ho, hx, Instr.loadAt, Instr.sureAddr, Sem.run_bind, Sem.run_pure, Result.andThen_ok, run_loadVar_add w ad ty cs d hc hu hd hi]
  exact h
theorem wpList_load_add {P : Program} {ops : Array Oper} {rest : List Oper} {op : Oper} {a : Act} {w : World} {Q : Exit → Act → World → Prop} (hgd : op.guard = none) (ty : TypeId) (x : Operand) (ho : op.op = .load ty x)
    (ad : Addr) (hx : a.eval x = .pointer (some ad)) (cs : List Value) (d : TypeDesc) (hc : ∀ j v, cs[j]? = some v → w.cell? (ad.add j) = some v)
    (hu : P.underlying ty = some d) (hd : d.isRow = true) (hi : (P.info? ty).map (·.size) = some cs.length)
    (h : wpList P ops Q rest (a.put op.dst (.agg cs.toArray)) w) : wpList P ops Q (op :: rest) a w :=
  wpList_plain hgd fun _ hK => wp_load_add ty x ho ad hx cs d hc hu hd hi (hK _ _ h)
end Go.Proofs.YtkaghbpdnmigmaaDoor
