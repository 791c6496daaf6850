/- Words for LogtreeCollides: a copy of a path, a struct of a digest and single cells, a changed byte. -/
import Derived.Laws.BitsAllLaws
import Derived.Test.YtkaghbpdnmigmaaDoorCoC
namespace Go.Proofs.YtkaghbpdnmigmaaDoor
open Go.RowKit

/-! ### Structs that begin with a digest -/
theorem fill_cons (place : Nat → Option (Nat × Nat)) (b : List Value) (i : Nat) (v : Value) (rest : List (Nat × Value)) (off size : Nat) (hp : place i = some (off, size)) (hv : v.cells.size = size) (hb : off + size ≤ b.length) :
    Instr.fill place b.toArray ((i, v) :: rest) = Instr.fill place (b.take off ++ v.cells.toList ++ b.drop (off + size)).toArray rest := by
  have hf := fold_arr v.cells b.toArray off (by simpa [hv] using hb)
  have h2 : ¬ (off + size > b.toArray.size) := by simp; omega
  simp only [Instr.fill, hp, hv, ne_eq, not_true_eq_false, decide_false, Bool.false_or, h2, Bool.false_eq_true, if_false]
  rw [hv] at hf
  rw [hf]
def zeroClaim : Array Value := (List.replicate 32 (Value.int .u8 0) ++ [Value.int .i64 0, Value.int .i64 0, Value.slice none 0 0]).toArray
theorem zvClaim (w : World) : (zeroValue 40).run Tryd.prog w = .ok (.agg zeroClaim) w := by kernel_rfl
theorem infoClaim : (Tryd.prog.info? 40).map (·.size) = some 35 := by kernel_rfl
def zeroProof : Array Value := (List.replicate 32 (Value.int .u8 0) ++ [Value.slice none 0 0]).toArray
theorem built_claim0 (parts : List (Nat × Value)) : Tryd.prog.built 40 parts = Instr.fill ((#[(0, 32), (32, 1), (33, 1), (34, 1)] : Array (Nat × Nat))[·]?) zeroClaim parts := by kernel_rfl
theorem built_proof0 (parts : List (Nat × Value)) : Tryd.prog.built 52 parts = Instr.fill ((#[(0, 32), (32, 1)] : Array (Nat × Nat))[·]?) zeroProof parts := by kernel_rfl
theorem built_claim (L : List Value) (hL : L.length = 32) (a b : Int) (A : Option Addr) (len cap : Nat) :
    Tryd.prog.built 40 [(0, .agg L.toArray), (1, .int .i64 a), (2, .int .i64 b), (3, .slice A len cap)] = some (L ++ [Value.int .i64 a, Value.int .i64 b, Value.slice A len cap]).toArray := by
  have t33 : L.take 33 = L := List.take_of_length_le (by omega)
  have t34 : L.take 34 = L := List.take_of_length_le (by omega)
  have d34 : L.drop 34 = [] := List.drop_of_length_le (by omega)
  have d35 : L.drop 35 = [] := List.drop_of_length_le (by omega)
  rw [built_claim0, zeroClaim]
  rw [fill_cons _ _ 0 _ _ 0 32 rfl (by simpa [Value.cells] using hL) (by simp)]
  rw [show ((List.replicate 32 (Value.int .u8 0) ++ [Value.int .i64 0, Value.int .i64 0, Value.slice none 0 0]).take 0 ++ (Value.agg L.toArray).cells.toList ++ (List.replicate 32 (Value.int .u8 0) ++ [Value.int .i64 0, Value.int .i64 0, Value.slice none 0 0]).drop (0 + 32)) = L ++ [Value.int .i64 0, Value.int .i64 0, Value.slice none 0 0] by simp [Value.cells]]
  rw [fill_cons _ _ 1 _ _ 32 1 rfl rfl (by simp [hL])]
  rw [show ((L ++ [Value.int .i64 0, Value.int .i64 0, Value.slice none 0 0]).take 32 ++ (Value.int .i64 a).cells.toList ++ (L ++ [Value.int .i64 0, Value.int .i64 0, Value.slice none 0 0]).drop (32 + 1)) = L ++ [Value.int .i64 a, Value.int .i64 0, Value.slice none 0 0] by simp [Value.cells, hL, List.drop_append]]
  rw [fill_cons _ _ 2 _ _ 33 1 rfl rfl (by simp [hL])]
  rw [show ((L ++ [Value.int .i64 a, Value.int .i64 0, Value.slice none 0 0]).take 33 ++ (Value.int .i64 b).cells.toList ++ (L ++ [Value.int .i64 a, Value.int .i64 0, Value.slice none 0 0]).drop (33 + 1)) = L ++ [Value.int .i64 a, Value.int .i64 b, Value.slice none 0 0] by simp [Value.cells, hL, List.take_append, List.drop_append, t33, d34]]
  rw [fill_cons _ _ 3 _ _ 34 1 rfl rfl (by simp [hL])]
  rw [show ((L ++ [Value.int .i64 a, Value.int .i64 b, Value.slice none 0 0]).take 34 ++ (Value.slice A len cap).cells.toList ++ (L ++ [Value.int .i64 a, Value.int .i64 b, Value.slice none 0 0]).drop (34 + 1)) = L ++ [Value.int .i64 a, Value.int .i64 b, Value.slice A len cap] by simp [Value.cells, hL, List.take_append, List.drop_append, t34, d35]]
  rfl
theorem built_proof (L : List Value) (hL : L.length = 32) (A : Option Addr) (len cap : Nat) :
    Tryd.prog.built 52 [(0, .agg L.toArray), (1, .slice A len cap)] = some (L ++ [Value.slice A len cap]).toArray := by
  rw [built_proof0, zeroProof]
  rw [fill_cons _ _ 0 _ _ 0 32 rfl (by simpa [Value.cells] using hL) (by simp)]
  rw [show ((List.replicate 32 (Value.int .u8 0) ++ [Value.slice none 0 0]).take 0 ++ (Value.agg L.toArray).cells.toList ++ (List.replicate 32 (Value.int .u8 0) ++ [Value.slice none 0 0]).drop (0 + 32)) = L ++ [Value.slice none 0 0] by simp [Value.cells]]
  rw [fill_cons _ _ 1 _ _ 32 1 rfl rfl (by simp [hL])]
  rw [show ((L ++ [Value.slice none 0 0]).take 32 ++ (Value.slice A len cap).cells.toList ++ (L ++ [Value.slice none 0 0]).drop (32 + 1)) = L ++ [Value.slice A len cap] by simp [Value.cells, hL, List.drop_append]]
  rfl

/-! ### A copy of a path -/
def CopyA (b : Nat) (m : Nat) (path : List (List UInt8)) (A : Option Addr) (c : Nat) (W : World) : Prop :=
  m ≤ c ∧ c ≤ 9223372036854775807 ∧ (m = 0 ∨ ∃ g zs, A = some ⟨g, 0, none⟩ ∧ b ≤ g ∧ Blk W g 23 (path.flatMap digC ++ zs).toArray)
def CopyS (b : Nat) (m : Nat) (path : List (List UInt8)) (v : Value) (W : World) : Prop := ∃ A c, v = .slice A m c ∧ CopyA b m path A c W
theorem CopyA.fr0 {b m : Nat} {path : List (List UInt8)} {A : Option Addr} {c : Nat} {w w' : World} (hf : Fr Nothing w w') (h : CopyA b m path A c w) : CopyA b m path A c w' := by
  obtain ⟨h1, h2, h3⟩ := h
  refine ⟨h1, h2, ?_⟩
  rcases h3 with h3 | ⟨g, zs, hA, hg, hb⟩
  · exact .inl h3
  · exact .inr ⟨g, zs, hA, hg, hb.fr hf (fun x => x)⟩
theorem CopyS.stable {w : World} {b m : Nat} {path : List (List UInt8)} : ∀ v w' w'', Fr Nothing w w' → Fr Nothing w' w'' → CopyS b m path v w' → CopyS b m path v w'' := fun _ _ _ _ hf ⟨A, c, h, k⟩ => ⟨A, c, h, k.fr0 hf⟩
theorem CopyA.dig {b m : Nat} {path : List (List UInt8)} {A : Option Addr} {c : Nat} {w : World} (h : CopyA b m path A c w) (hl : path.length = m) (he : ∀ d ∈ path, d.length = 32) : ∃ S, DigL w S A m path := by
  have hcl : ∀ p : List (List UInt8), (∀ d ∈ p, d.length = 32) → (p.flatMap digC).length = p.length * 32 := by
    intro p hp
    induction p with
    | nil => rfl
    | cons d r ih =>
      rw [List.flatMap_cons, List.length_append, ih (fun x hx => hp x (by simp [hx])), digC, List.length_map, hp d (by simp), List.length_cons]
      omega
  obtain ⟨_, _, h3⟩ := h
  rcases h3 with rfl | ⟨g, zs, rfl, _, hb⟩
  · exact ⟨Nothing, ⟨⟨by rw [hcl _ he, hl], fun h => absurd h (Nat.lt_irrefl _)⟩, hl, he⟩⟩
  · refine ⟨fun k => k = g, ⟨⟨by rw [hcl _ he, hl], fun _ => ⟨_, rfl, rfl, fun j u hu => ?_⟩⟩, hl, he⟩⟩
    have hj := (List.getElem?_eq_some_iff.1 hu).1
    rw [Addr.add_mid, Nat.zero_add, hb.cell, List.getElem?_toArray, List.getElem?_append_left hj]
    exact hu
theorem info_D32 : (Tryd.prog.info? 23).map (fun i => (i.zero, i.size, i.bytes)) = some (some zero32, 32, 32) := by kernel_rfl
theorem copy_run (w : World) (b : Addr) (A : Option Addr) (m c : Nat) (S : Nat → Prop) (path : List (List UInt8)) (hD : DigL w S A m path) (hm : m ≤ 1048576) (ty : TypeId) :
    ∃ v' w', (Builtin.append_ #[22, 22] ty #[.slice (some b) 0 0, .slice A m c]).run Tryd.prog w = .ok v' w' ∧ Fr Nothing w w' ∧ CopyS w.heap.size m path v' w' := by
  obtain ⟨i, hi, hz, hs, hb⟩ := info_parts info_D32
  have ht : Tryd.prog.underlying 22 = some (.slice 23) := Tryd.underlying22
  rcases Nat.eq_zero_or_pos m with rfl | h0
  · refine ⟨.slice (some b) 0 0, w, ?_, Fr.refl _ _, some b, 0, rfl, Nat.le_refl _, by omega, .inl rfl⟩
    cases A <;> simp [Builtin.append_, run_underlying ht, sizeOf, typeInfo, hi, Builtin.lenOf, Builtin.firstCells, storeCells, loadCells, loadCellsFrom]
  · obtain ⟨ad, rfl, _, hc⟩ := hD.rd.2 h0
    have hl : (path.flatMap digC).length = m * 32 := hD.rd.1
    have h := run_append_grow (P := Tryd.prog) w 22 ty 23 i zero32 ht hi hz b 0 0 [] (by simp) (by intro j v hj; simp at hj) ad m c (path.flatMap digC) (by rw [hs]; exact hl) hc (by omega) (by omega) (by rw [hb]; exact growslice_fits (by omega) (by omega))
    refine ⟨_, _, h, (Fr.refl _ _).drew.alloc _, some ⟨w.heap.size, 0, none⟩, grownCap w (0 + m) 0 23, by rw [Nat.zero_add], ?_, ?_, .inr ⟨w.heap.size, (Builtin.zeroCells zero32.cells (grownCap w (0 + m) 0 23 - (0 + m))).toList, rfl, Nat.le_refl _, ?_⟩⟩
    · have := grownCap_ge w (0 + m) 0 23
      omega
    · have := grownCap_le_maxLen w (0 + m) 0 23 (by unfold maxLen; omega)
      unfold maxLen at this
      omega
    · have hB := Blk.new w.drew 23 ((([] : List Value).toArray ++ (path.flatMap digC).toArray) ++ Builtin.zeroCells zero32.cells (grownCap w (0 + m) 0 23 - (0 + m)))
      have e : (([] : List Value).toArray ++ (path.flatMap digC).toArray) ++ Builtin.zeroCells zero32.cells (grownCap w (0 + m) 0 23 - (0 + m)) = (path.flatMap digC ++ (Builtin.zeroCells zero32.cells (grownCap w (0 + m) 0 23 - (0 + m))).toList).toArray := by
        apply Array.ext'
        simp
      rw [← e]
      exact hB
theorem wp_copyD {o : Oper} {a : Act} {w : World} {K : Act → World → Prop} {Q : Exit → Act → World → Prop} (s x : Operand) (ho : o.op = .call { callee := .builtin .append, args := #[s, x], argTypes := #[22, 22] })
    (b : Addr) (hs : a.eval s = .slice (some b) 0 0) (A : Option Addr) (m c : Nat) (hx : a.eval x = .slice A m c) (S : Nat → Prop) (path : List (List UInt8)) (hD : DigL w S A m path) (hm : m ≤ 1048576)
    (h : ∀ v' w', Fr Nothing w w' → CopyS w.heap.size m path v' w' → K (a.put o.dst v') w') : o.wp Tryd.prog a w K Q := by
  obtain ⟨v', w', hrun, hf, hC⟩ := copy_run w b A m c S path hD hm o.type
  unfold Oper.wp execOp
  simp only [ho, resolve, invoke, builtin, Sem.run_bind, Sem.run_pure, Result.andThen_ok, List.map_toArray, List.map_cons, List.map_nil, hs, hx, hrun]
  exact h v' w' hf hC

/-! ### A changed byte -/
theorem xor_u8 (a b : UInt8) : bits .xor .u8 ((a.toNat : Nat) : Int) ((b.toNat : Nat) : Int) = (((a ^^^ b).toNat : Nat) : Int) := by
  have ha := a.toNat_lt
  have hb := b.toNat_lt
  rw [u8_xor_nat _ _ (by omega) (by omega), UInt8.toNat_xor]
theorem xor_same (a b : UInt8) : a ^^^ b = a ↔ b = 0 := by
  constructor
  · intro h
    have h2 : a ^^^ (a ^^^ b) = a ^^^ a := by rw [h]
    rw [← UInt8.xor_assoc, UInt8.xor_self, UInt8.zero_xor] at h2
    exact h2
  · rintro rfl
    exact UInt8.xor_zero
theorem set_same {α : Type} [Inhabited α] (l : List α) (k : Nat) (x : α) (hk : k < l.length) : l.set k x = l ↔ x = l[k] := by
  constructor
  · intro h
    have h2 : (l.set k x)[k]? = l[k]? := by rw [h]
    rw [List.getElem?_set_self hk, List.getElem?_eq_getElem hk] at h2
    exact Option.some.inj h2
  · rintro rfl
    exact List.set_getElem_self hk
/-- The byte k of all the bytes of a leaf and a path is changed. -/
def spoilLeaf (l : List UInt8) (k : Nat) (b : UInt8) : List UInt8 := l.set k (l.getD k 0 ^^^ b)
def spoilPath (p : List (List UInt8)) (k : Nat) (b : UInt8) : List (List UInt8) := p.set (k / 32 - 1) (spoilLeaf (p.getD (k / 32 - 1) []) (k % 32) b)
theorem spoilLeaf_length (l : List UInt8) (k : Nat) (b : UInt8) : (spoilLeaf l k b).length = l.length := List.length_set
theorem spoilLeaf_same (l : List UInt8) (k : Nat) (b : UInt8) (hk : k < l.length) : spoilLeaf l k b = l ↔ b = 0 := by
  unfold spoilLeaf
  rw [set_same l k _ hk, List.getD_eq_getElem?_getD, List.getElem?_eq_getElem hk, Option.getD_some, xor_same]
theorem spoilPath_same (p : List (List UInt8)) (k : Nat) (b : UInt8) (hk : k / 32 - 1 < p.length) (he : ∀ d ∈ p, d.length = 32) : spoilPath p k b = p ↔ b = 0 := by
  unfold spoilPath
  rw [set_same p _ _ hk, List.getD_eq_getElem?_getD, List.getElem?_eq_getElem hk, Option.getD_some]
  exact spoilLeaf_same _ _ b (by rw [he _ (List.getElem_mem hk)]; omega)
theorem spoilPath_each (p : List (List UInt8)) (k : Nat) (b : UInt8) (hk : k / 32 - 1 < p.length) (he : ∀ d ∈ p, d.length = 32) : ∀ d ∈ spoilPath p k b, d.length = 32 := by
  intro d hd
  rcases List.mem_or_eq_of_mem_set hd with h | rfl
  · exact he d h
  · rw [spoilLeaf_length, List.getD_eq_getElem?_getD, List.getElem?_eq_getElem hk]
    exact he _ (List.getElem_mem hk)
theorem spoilPath_length (p : List (List UInt8)) (k : Nat) (b : UInt8) : (spoilPath p k b).length = p.length := List.length_set
theorem digC_set (l : List UInt8) (k : Nat) (x : UInt8) : (digC l).set k (bvI x) = digC (l.set k x) := by unfold digC; rw [List.map_set]
theorem flat_set (p : List (List UInt8)) (he : ∀ d ∈ p, d.length = 32) : ∀ (i j : Nat) (x : UInt8), i < p.length → j < 32 → (p.flatMap digC).set (i * 32 + j) (bvI x) = (p.set i ((p.getD i []).set j x)).flatMap digC := by
  induction p with
  | nil => intro i j x h; simp at h
  | cons d r ih =>
    intro i j x hi hj
    have hd : (digC d).length = 32 := by rw [digC, List.length_map]; exact he d (by simp)
    rcases i with _ | i
    · rw [List.flatMap_cons, Nat.zero_mul, Nat.zero_add, List.set_append_left _ _ (by omega), digC_set, List.set_cons_zero, List.flatMap_cons]
      rfl
    · rw [List.flatMap_cons, List.set_append_right _ _ (by omega), show (i + 1) * 32 + j - (digC d).length = i * 32 + j by omega, ih (fun x hx => he x (by simp [hx])) i j x (by simpa using hi) hj, List.set_cons_succ, List.flatMap_cons]
      rfl
end Go.Proofs.YtkaghbpdnmigmaaDoor
