/- Steps of the proof of LawPipesLoseNothing: contracts of the functions that the law reaches, for every world that holds what each of them asks. -/
import Derived.Deep.MidRow
import Derived.Test.YtmpokappjogehaaGreatDoorQAB
import Derived.Test.YtmpokappjogehaaGreatDoorQAC
import Derived.Test.YtmpokappjogehaaGreatDoorQAA
set_option linter.unusedVariables false
set_option linter.unusedSimpArgs false
namespace Go.Proofs.YtmpokappjogehaaGreatDoor
open Go.RowKit

def SameW (w : World) (v : Value) (e : Ending) (w' : World) : Prop := e = .returned v ∧ w = w'
def Held (p : Prop) : Prop := p
theorem Held.go {p : Prop} (h : Held p) : p := h
theorem run_loadVar_add {P : Program} (w : World) (ad : Addr) (ty : TypeId) (cs : List Value) (d : TypeDesc) (hc : ∀ j v, cs[j]? = some v → w.cell? (ad.add j) = some v)
    (hu : P.underlying ty = some d) (hd : d.isRow = true) (hi : (P.info? ty).map (·.size) = some cs.length) : (loadVar ty ad).run P w = .ok (.agg cs.toArray) w := by
  have hl : (loadCells ad cs.length).run P w = .ok cs.toArray w := run_loadCells_list (P := P) w ad cs hc
  cases hq : P.info? ty with
  | none => simp [hq] at hi
  | some i =>
    have hs : i.size = cs.length := by simpa [hq] using hi
    have hagg : (isAgg ty).run P w = .ok true w := by
      unfold isAgg
      rw [Sem.run_bind, run_underlying hu w]
      cases d <;> simp_all
    simp [loadVar, Sem.run_bind, hagg, sizeOf, typeInfo, hq, hs, hl]
theorem wp_load_add {P : Program} {op : Oper} {a : Act} {w : World} {K : Act → World → Prop} {Q : Exit → Act → World → Prop} (ty : TypeId) (x : Operand) (ho : op.op = .load ty x)
    (ad : Addr) (hx : a.eval x = .pointer (some ad)) (cs : List Value) (d : TypeDesc) (hc : ∀ j v, cs[j]? = some v → w.cell? (ad.add j) = some v)
    (hu : P.underlying ty = some d) (hd : d.isRow = true) (hi : (P.info? ty).map (·.size) = some cs.length)
    (h : K (a.put op.dst (.agg cs.toArray)) w) : op.wp P a w K Q := by
  unfold Oper.wp execOp
  simp only [ho, hx, Instr.loadAt, Instr.sureAddr, Sem.run_bind, Sem.run_pure, Result.andThen_ok, run_loadVar_add w ad ty cs d hc hu hd hi]
  exact h
theorem wpList_load_add {P : Program} {ops : Array Oper} {rest : List Oper} {op : Oper} {a : Act} {w : World} {Q : Exit → Act → World → Prop} (hgd : op.guard = none) (ty : TypeId) (x : Operand) (ho : op.op = .load ty x)
    (ad : Addr) (hx : a.eval x = .pointer (some ad)) (cs : List Value) (d : TypeDesc) (hc : ∀ j v, cs[j]? = some v → w.cell? (ad.add j) = some v)
    (hu : P.underlying ty = some d) (hd : d.isRow = true) (hi : (P.info? ty).map (·.size) = some cs.length)
    (h : wpList P ops Q rest (a.put op.dst (.agg cs.toArray)) w) : wpList P ops Q (op :: rest) a w :=
  wpList_plain hgd fun _ hK => wp_load_add ty x ho ad hx cs d hc hu hd hi (hK _ _ h)

/-! ### Names and trees -/
structure NameV where
  kind : Int
  owner : ByteArray
  number : Int
  index : Int
  text : ByteArray
def NameV.cells (n : NameV) : List Value := [.int .i64 n.kind, .string n.owner, .int .i64 n.number, .int .i64 n.index, .string n.text]
def NameV.val (n : NameV) : Value := .agg n.cells.toArray
theorem NameV.cells_length (n : NameV) : n.cells.length = 5 := rfl
theorem infoName : (Tryz.prog.info? 144).map (·.size) = some 5 := by kernel_rfl
theorem infoNode : (Tryz.prog.info? 315).map (·.size) = some 11 := by kernel_rfl

inductive Tr where
  | leaf
  | node (l : Tr) (nm : NameV) (v : ByteArray) (r : Tr)
def Tr.height : Tr → Nat
  | .leaf => 0
  | .node l _ _ r => 1 + max l.height r.height
def Tr.size : Tr → Nat
  | .leaf => 0
  | .node l _ _ r => 1 + l.size + r.size
def Tr.bytes : Tr → Nat
  | .leaf => 0
  | .node l _ v r => v.size + l.bytes + r.bytes
theorem Tr.height_le : ∀ t : Tr, t.height ≤ t.size
  | .leaf => Nat.le_refl _
  | .node l _ _ r => by
    have := l.height_le
    have := r.height_le
    simp only [Tr.height, Tr.size]
    omega
def nodeC (la ra : Option Addr) (t : Tr) : List Value :=
  match t with
  | .leaf => []
  | .node _ nm v _ => [.pointer la, .pointer ra] ++ nm.cells ++ [.string v, .int .i64 (t.height : Nat), .int .i64 (t.size : Nat), .int .i64 (t.bytes : Nat)]
set_option maxRecDepth 100000 in
theorem built_node (la ra : Option Addr) (nm : NameV) (v : ByteArray) (h z y : Int) :
    Tryz.prog.built 315 [(0, .pointer la), (1, .pointer ra), (2, .agg #[.int .i64 nm.kind, .string nm.owner, .int .i64 nm.number, .int .i64 nm.index, .string nm.text]), (3, .string v), (4, .int .i64 h), (5, .int .i64 z), (6, .int .i64 y)] = some #[.pointer la, .pointer ra, .int .i64 nm.kind, .string nm.owner, .int .i64 nm.number, .int .i64 nm.index, .string nm.text, .string v, .int .i64 h, .int .i64 z, .int .i64 y] := by kernel_rfl
theorem wpList_built {P : Program} {ops : Array Oper} {rest : List Oper} {o : Oper} {a : Act} {w : World} {Q : Exit → Act → World → Prop} (hg : o.guard = none) (t : TypeId) (parts : Array (Nat × Operand)) (ho : o.op = .build t parts)
    (cells : Array Value) (vs : List (Nat × Value)) (hv : (parts.map fun (i, x) => (i, a.eval x)).toList = vs) (hf : P.built t vs = some cells) (h : wpList P ops Q rest (a.put o.dst (.agg cells)) w) : wpList P ops Q (o :: rest) a w := by
  subst hv
  exact wpList_plain hg fun _ hK => wp_build t parts ho (by rw [hf]; rfl) (by rw [hf]; exact hK _ _ h)
/-- A tree in memory: nodes never change. -/
def NodH (w : World) : Option Addr → Tr → Prop
  | a, .leaf => a = none
  | a, .node l nm v r => ∃ g la ra, a = some ⟨g, 0, none⟩ ∧ NodH w la l ∧ NodH w ra r ∧ Blk w g 315 (nodeC la ra (.node l nm v r)).toArray
theorem NodH.fr0 {w w' : World} : ∀ {a : Option Addr} {t : Tr}, NodH w a t → Fr Nothing w w' → NodH w' a t
  | _, .leaf, h, _ => h
  | _, .node _ _ _ _, ⟨g, la, ra, e, h1, h2, hb⟩, hf => ⟨g, la, ra, e, h1.fr0 hf, h2.fr0 hf, hb.fr hf (fun x => x)⟩
/-- A node's name and value. -/
structure Mid (w : World) (g : Nat) (nm : NameV) (v : ByteArray) : Prop where
  name : ∀ j x, nm.cells[j]? = some x → w.cell? ⟨g, 2 + j, none⟩ = some x
  val : w.cell? ⟨g, 7, none⟩ = some (.string v)
theorem Mid.fr0 {w w' : World} {g : Nat} {nm : NameV} {v : ByteArray} (h : Mid w g nm v) (hf : Fr Nothing w w') : Mid w' g nm v :=
  ⟨fun j x hx => hf.cellSome (h.name j x hx) (fun x => x), hf.cellSome h.val (fun x => x)⟩
theorem Mid.of {w : World} {g : Nat} {a b c d e : Value} {nm : NameV} {v : ByteArray} (h : Blk w g 315 ([a, b] ++ nm.cells ++ [.string v, c, d, e]).toArray) : Mid w g nm v := by
  refine ⟨fun j x hx => ?_, h.cell 7⟩
  have hj : j < 5 := (List.getElem?_eq_some_iff.1 hx).1
  rw [h.cell, List.getElem?_toArray, List.append_assoc, List.getElem?_append_right (by simp), List.getElem?_append_left (by simp [NameV.cells]; omega)]
  rw [show 2 + j - [a, b].length = j by simp]
  exact hx
theorem NodH.mid {w : World} {g : Nat} {l r : Tr} {nm : NameV} {v : ByteArray} (h : NodH w (some ⟨g, 0, none⟩) (.node l nm v r)) : Mid w g nm v := by
  obtain ⟨g', la, ra, e, _, _, hb⟩ := h
  cases e
  exact Mid.of hb

end Go.Proofs.YtmpokappjogehaaGreatDoor

namespace Go.Proofs.YtmpokappjogehaaGreatDoor
namespace Ev
open Go Go.RowKit

/-! ### Strings -/
theorem bytesN_length : ∀ (n x : Nat), (bytesN n x).length = n
  | 0, _ => rfl
  | n + 1, x => by rw [bytesN, List.length_append, bytesN_length n]; rfl
theorem u8_eq {x y : Nat} (h : x % 256 = y % 256) : UInt8.ofNat x = UInt8.ofNat y := by
  apply UInt8.toNat_inj.1
  simpa using h
theorem bytesN_app (b : Nat) : ∀ (a x : Nat), bytesN (a + b) x = bytesN a (x / 256 ^ b) ++ bytesN b x := by
  induction b with
  | zero => intro a x; simp [bytesN]
  | succ b ih =>
    intro a x
    rw [← Nat.add_assoc, bytesN, ih, bytesN, List.append_assoc, Nat.div_div_eq_div_mul, Nat.pow_succ, Nat.mul_comm 256]
theorem bytesN_mod (b : Nat) : ∀ (x y : Nat), x % 256 ^ b = y % 256 ^ b → bytesN b x = bytesN b y := by
  induction b with
  | zero => intro x y _; rfl
  | succ b ih =>
    intro x y h
    rw [bytesN, bytesN]
    have h1 : x / 256 % 256 ^ b = y / 256 % 256 ^ b := by
      have e : ∀ z, z / 256 % 256 ^ b = z % 256 ^ (b + 1) / 256 := fun z => by
        rw [Nat.pow_succ, Nat.mul_comm, Nat.mod_mul_right_div_self]
      rw [e, e, h]
    have h2 : x % 256 = y % 256 := by
      have e : ∀ z, z % 256 ^ (b + 1) % 256 = z % 256 := fun z => Nat.mod_mod_of_dvd z ⟨256 ^ b, by rw [Nat.pow_succ, Nat.mul_comm]⟩
      rw [← e x, ← e y, h]
    rw [ih _ _ h1, u8_eq h2]
theorem bytesN_inj (b : Nat) : ∀ (x y : Nat), bytesN b x = bytesN b y → x % 256 ^ b = y % 256 ^ b := by
  induction b with
  | zero => intro x y _; simp [Nat.mod_one]
  | succ b ih =>
    intro x y h
    rw [bytesN, bytesN] at h
    obtain ⟨h1, h2⟩ := List.append_inj' h rfl
    have h3 := ih _ _ h1
    have h4 : x % 256 = y % 256 := by
      have : (UInt8.ofNat x).toNat = (UInt8.ofNat y).toNat := by injection h2 with h2; rw [h2]
      simpa using this
    have e : ∀ z, z % 256 ^ (b + 1) = z / 256 % 256 ^ b * 256 + z % 256 := fun z => by
      rw [Nat.pow_succ, Nat.mul_comm (256 ^ b), Nat.mod_mul, Nat.mul_comm, Nat.add_comm]
    rw [e, e, h3, h4]
def Str.l (s : Str) : List UInt8 := bytesN s.len s.num
theorem Str.l_length (s : Str) : s.l.length = s.len := bytesN_length _ _
theorem Str.ba_l (s : Str) : s.ba.data.toList = s.l := by simp [Str.ba, Str.l]
theorem Str.ba_size (s : Str) : s.ba.size = s.len := by
  show s.ba.data.size = _
  rw [← Array.length_toList, Str.ba_l, Str.l_length]
theorem ba_ext {a b : ByteArray} (h : a.data.toList = b.data.toList) : a = b := by
  cases a; cases b
  congr 1
  exact Array.ext' h
theorem Str.ext_l {s : Str} {b : ByteArray} (h : s.l = b.data.toList) : s.ba = b := ba_ext (by rw [Str.ba_l, h])
theorem Str.cat_l (a b : Str) : (a.cat b).l = a.l ++ b.l := by
  unfold Str.l Str.cat
  simp only
  rw [bytesN_app]
  have hp : 0 < 256 ^ b.len := Nat.pow_pos (by omega)
  congr 1
  · congr 1
    rw [Nat.add_comm, Nat.add_mul_div_right _ _ hp, Nat.div_eq_of_lt (Nat.mod_lt _ hp), Nat.zero_add]
  · apply bytesN_mod
    rw [Nat.add_comm, Nat.add_mul_mod_self_right, Nat.mod_mod]
theorem Str.cat_ba (a b : Str) : (a.cat b).ba = a.ba ++ b.ba := Str.ext_l (by
  rw [Str.cat_l, ByteArray.data_append, Array.toList_append, Str.ba_l, Str.ba_l])
theorem Str.sub_l (s : Str) (i j : Nat) (h1 : i ≤ j) (h2 : j ≤ s.len) : (s.sub i j).l = (s.l.take j).drop i := by
  unfold Str.l Str.sub
  simp only
  have e1 : bytesN s.len s.num = bytesN j (s.num / 256 ^ (s.len - j)) ++ bytesN (s.len - j) s.num := by
    rw [← bytesN_app, Nat.add_sub_cancel' h2]
  have e2 : bytesN j (s.num / 256 ^ (s.len - j)) = bytesN i (s.num / 256 ^ (s.len - j) / 256 ^ (j - i)) ++ bytesN (j - i) (s.num / 256 ^ (s.len - j)) := by
    rw [← bytesN_app, Nat.add_sub_cancel' h1]
  rw [e1, List.take_append_of_le_length (by rw [bytesN_length]; omega), List.take_of_length_le (by rw [bytesN_length]; omega), e2, List.drop_append_of_le_length (by rw [bytesN_length]; omega),
    List.drop_of_length_le (by rw [bytesN_length]; omega), List.nil_append]
  apply bytesN_mod
  rw [Nat.mod_mod]
theorem Str.sub_ba (s : Str) (i j : Nat) (h1 : i ≤ j) (h2 : j ≤ s.len) : (s.sub i j).ba = s.ba.extract i j := Str.ext_l (by
  rw [Str.sub_l s i j h1 h2, ByteArray.data_extract, Array.toList_extract, Str.ba_l, List.extract_eq_take_drop, List.drop_take])
theorem Str.at_l (s : Str) (i : Nat) (h : i < s.len) : s.l[i]? = some (UInt8.ofNat (s.at i)) := by
  unfold Str.l Str.at
  have e1 : bytesN s.len s.num = bytesN (i + 1) (s.num / 256 ^ (s.len - 1 - i)) ++ bytesN (s.len - 1 - i) s.num := by
    rw [← bytesN_app]; congr 1; omega
  rw [e1, List.getElem?_append_left (by rw [bytesN_length]; omega), bytesN, List.getElem?_append_right (by rw [bytesN_length]; omega), bytesN_length, Nat.sub_self]
  simp only [List.getElem?_cons_zero, Option.some.injEq]
  exact u8_eq (by simp)
theorem Str.at_ba (s : Str) (i : Nat) (h : i < s.len) : s.ba[i]? = some (UInt8.ofNat (s.at i)) := by
  have h1 := Str.at_l s i h
  have hi : i < s.ba.size := by rw [Str.ba_size]; exact h
  rw [getElem?_pos s.ba i hi]
  have h2 : i < s.ba.data.toList.length := by rw [Str.ba_l, Str.l_length]; exact h
  have h3 : s.ba.data.toList[i]? = some (UInt8.ofNat (s.at i)) := by rw [Str.ba_l]; exact h1
  rw [List.getElem?_eq_getElem h2] at h3
  exact h3
theorem Str.at_lt (s : Str) (i : Nat) : s.at i < 256 := Nat.mod_lt _ (by omega)
theorem Str.beq_l (a b : Str) : a.beq b = decide (a.l = b.l) := by
  unfold Str.beq
  cases h : Nat.beq a.len b.len with
  | false =>
    have : a.len ≠ b.len := Nat.ne_of_beq_eq_false h
    rw [eq_comm]
    exact decide_eq_false fun e => this (by rw [← Str.l_length, ← Str.l_length, e])
  | true =>
    have e : a.len = b.len := Nat.eq_of_beq_eq_true h
    cases h2 : Nat.beq (a.num % 256 ^ a.len) (b.num % 256 ^ b.len) with
    | false =>
      have h3 := Nat.ne_of_beq_eq_false h2
      simp only
      rw [eq_comm]
      refine decide_eq_false fun e2 => h3 ?_
      unfold Str.l at e2
      rw [← e] at e2 ⊢
      exact bytesN_inj _ _ _ e2
    | true =>
      have h3 := Nat.eq_of_beq_eq_true h2
      simp only
      rw [eq_comm]
      refine decide_eq_true ?_
      unfold Str.l
      rw [← e] at h3 ⊢
      exact bytesN_mod _ _ _ h3
theorem ba_toList (b : ByteArray) : b.toList = b.data.toList := (Lib.toList_data b)
theorem Str.beq_ba (a b : Str) : a.beq b = (a.ba.toList == b.ba.toList) := by
  rw [Str.beq_l, ba_toList, ba_toList, Str.ba_l, Str.ba_l, eq_comm, Bool.eq_iff_iff]
  simp
theorem ofBytes_l : ∀ (r : List UInt8) (l n : Nat), (ofBytes r l n).l = bytesN l n ++ r
  | [], l, n => by simp [ofBytes, Str.l]
  | b :: r, l, n => by
    rw [ofBytes, ofBytes_l, bytesN]
    have h1 : (n * 256 + b.toNat) / 256 = n := by have := b.toNat_lt; omega
    have h2 : UInt8.ofNat (n * 256 + b.toNat) = b := by
      apply UInt8.toNat_inj.1
      have := b.toNat_lt
      simp
    rw [h1, h2, List.append_assoc]
    rfl
theorem ofBytes_ba (s : ByteArray) : (ofBytes s.data.toList 0 0).ba = s := Str.ext_l (by rw [ofBytes_l]; rfl)

/-! ### Maps with natural keys -/
theorem Tr.get_set {α : Type} (x : α) : ∀ (f : Nat) (t : Tr α) (n i : Nat) (y : α), (Tr.set f t n x).get i = some y → (i = n ∧ y = x) ∨ (i ≠ n ∧ t.get i = some y) := by
  intro f
  induction f with
  | zero => intro t n i y h; simp [Tr.set, Tr.get] at h
  | succ f ih =>
    intro t n i y h
    have key : ∀ (m k : Nat) (l : Tr α), m % 2 = k % 2 → (Tr.set f l (m / 2) x).get (k / 2) = some y → (k + 1 = m + 1 ∧ y = x) ∨ (k + 1 ≠ m + 1 ∧ l.get (k / 2) = some y) := by
      intro m k l hmk h
      rcases ih l (m / 2) (k / 2) y h with ⟨h1, h2⟩ | ⟨h1, h2⟩
      · exact .inl ⟨by omega, h2⟩
      · exact .inr ⟨by omega, h2⟩
    cases t with
    | nil =>
      cases n with
      | zero =>
        simp only [Tr.set] at h
        cases i with
        | zero => simp only [Tr.get, Option.some.injEq] at h; exact .inl ⟨rfl, h.symm⟩
        | succ k =>
          simp only [Tr.get] at h
          split at h <;> cases h
      | succ m =>
        simp only [Tr.set] at h
        split at h
        · rename_i hm
          cases i with
          | zero => simp [Tr.get] at h
          | succ k =>
            simp only [Tr.get] at h
            split at h
            · rename_i hk
              rcases key m k .nil (by omega) h with h1 | ⟨h1, h2⟩
              · exact .inl h1
              · simp [Tr.get] at h2
            · simp at h
        · rename_i hm
          have hm' : m % 2 ≠ 0 := hm
          cases i with
          | zero => simp [Tr.get] at h
          | succ k =>
            simp only [Tr.get] at h
            split at h
            · simp at h
            · rename_i hk
              have hk' : k % 2 ≠ 0 := hk
              rcases key m k .nil (by omega) h with h1 | ⟨h1, h2⟩
              · exact .inl h1
              · simp [Tr.get] at h2
    | node l v r =>
      cases n with
      | zero =>
        simp only [Tr.set] at h
        cases i with
        | zero => simp only [Tr.get, Option.some.injEq] at h; exact .inl ⟨rfl, h.symm⟩
        | succ k => exact .inr ⟨by omega, h⟩
      | succ m =>
        simp only [Tr.set] at h
        split at h
        · rename_i hm
          cases i with
          | zero => exact .inr ⟨by omega, h⟩
          | succ k =>
            simp only [Tr.get] at h ⊢
            split at h
            · rename_i hk
              rcases key m k l (by omega) h with h1 | ⟨h1, h2⟩
              · exact .inl h1
              · exact .inr ⟨h1, h2⟩
            · rename_i hk
              exact .inr ⟨fun e => hk (by omega), h⟩
        · rename_i hm
          cases i with
          | zero => exact .inr ⟨by omega, h⟩
          | succ k =>
            simp only [Tr.get] at h ⊢
            split at h
            · rename_i hk
              exact .inr ⟨fun e => hm (by omega), h⟩
            · rename_i hk
              have hk' : k % 2 ≠ 0 := hk
              have hm' : m % 2 ≠ 0 := hm
              rcases key m k r (by omega) h with h1 | ⟨h1, h2⟩
              · exact .inl h1
              · exact .inr ⟨h1, h2⟩
theorem Tr.get_put {α : Type} {t : Tr α} {n i : Nat} {x y : α} (h : (t.put n x).get i = some y) : (i = n ∧ y = x) ∨ (i ≠ n ∧ t.get i = some y) := Tr.get_set x 40 t n i y h

/-! ### Values -/
abbrev Sg := Nat → Option (Nat × Nat)
mutual
def EV.conc (σ : Sg) (ρ : Nat → Value) : EV → Option Value
  | .bool b => some (.bool b)
  | .int k n => some (.int k n)
  | .str s => some (.string s.ba)
  | .ptr id off => match σ id with
    | some (b, _) => some (.pointer (some ⟨b, off, none⟩))
    | none => none
  | .nilp => some (.pointer none)
  | .slc id off len sz => match σ id with
    | some (b, c) => if off + len ≤ c then some (.slice (some ⟨b, off * sz, none⟩) len (c - off)) else none
    | none => none
  | .nils => some (.slice none 0 0)
  | .asl id base len _ => match σ id with
    | some (b, _) => some (.slice (some ⟨b, base, none⟩) len len)
    | none => none
  | .map id => match σ id with
    | some (b, _) => some (.map (some b))
    | none => none
  | .nilm => some (.map none)
  | .fn f first cap => match EV.concs σ ρ first, EV.concs σ ρ cap with
    | some a, some c => some (.func (.func f) a.toArray c.toArray)
    | _, _ => none
  | .nilf => some .nilFunc
  | .agg cs => match EV.concs σ ρ cs with
    | some vs => some (.agg vs.toArray)
    | none => none
  | .tup cs => match EV.concs σ ρ cs with
    | some vs => some (.tuple vs.toArray)
    | none => none
  | .sint k i lo hi => match ρ i with
    | .int _ n => if lo ≤ n ∧ n ≤ hi then some (.int k n) else none
    | _ => none
  | .sstr i lo hi => match ρ i with
    | .string b => if lo ≤ b.size ∧ b.size ≤ hi then some (.string b) else none
    | _ => none
  | .slen i lo hi => match ρ i with
    | .string b => if lo ≤ b.size ∧ b.size ≤ hi then some (.int .i64 (b.size : Nat)) else none
    | _ => none
  | .any => none
def EV.concs (σ : Sg) (ρ : Nat → Value) : List EV → Option (List Value)
  | [] => some []
  | e :: l => match EV.conc σ ρ e, EV.concs σ ρ l with
    | some v, some vs => some (v :: vs)
    | _, _ => none
end
def Sg.le (σ σ' : Sg) : Prop := ∀ i p, σ i = some p → σ' i = some p
mutual
theorem EV.conc_mono {σ σ' : Sg} (hs : Sg.le σ σ') (ρ : Nat → Value) : ∀ (e : EV) (v : Value), e.conc σ ρ = some v → e.conc σ' ρ = some v
  | .bool _, v, h | .int _ _, v, h | .str _, v, h | .nilp, v, h | .nils, v, h | .nilm, v, h | .nilf, v, h | .sint .., v, h | .sstr .., v, h | .slen .., v, h | .any, v, h => by
    simpa only [EV.conc] using h
  | .ptr id off, v, h => by
    simp only [EV.conc] at h ⊢
    cases h1 : σ id with
    | none => rw [h1] at h; cases h
    | some p => rw [h1] at h; rw [hs _ _ h1]; exact h
  | .map id, v, h => by
    simp only [EV.conc] at h ⊢
    cases h1 : σ id with
    | none => rw [h1] at h; cases h
    | some p => rw [h1] at h; rw [hs _ _ h1]; exact h
  | .slc id off len sz, v, h => by
    simp only [EV.conc] at h ⊢
    cases h1 : σ id with
    | none => rw [h1] at h; cases h
    | some p => rw [h1] at h; rw [hs _ _ h1]; exact h
  | .asl id base len sz, v, h => by
    simp only [EV.conc] at h ⊢
    cases h1 : σ id with
    | none => rw [h1] at h; cases h
    | some p => rw [h1] at h; rw [hs _ _ h1]; exact h
  | .fn f a c, v, h => by
    simp only [EV.conc] at h ⊢
    cases h1 : EV.concs σ ρ a with
    | none => rw [h1] at h; cases h
    | some l =>
      cases h2 : EV.concs σ ρ c with
      | none => rw [h1, h2] at h; cases h
      | some l' => rw [h1, h2] at h; rw [EV.concs_mono hs ρ a l h1, EV.concs_mono hs ρ c l' h2]; exact h
  | .agg cs, v, h => by
    simp only [EV.conc] at h ⊢
    cases h1 : EV.concs σ ρ cs with
    | none => rw [h1] at h; cases h
    | some l => rw [h1] at h; rw [EV.concs_mono hs ρ cs l h1]; exact h
  | .tup cs, v, h => by
    simp only [EV.conc] at h ⊢
    cases h1 : EV.concs σ ρ cs with
    | none => rw [h1] at h; cases h
    | some l => rw [h1] at h; rw [EV.concs_mono hs ρ cs l h1]; exact h
theorem EV.concs_mono {σ σ' : Sg} (hs : Sg.le σ σ') (ρ : Nat → Value) : ∀ (l : List EV) (vs : List Value), EV.concs σ ρ l = some vs → EV.concs σ' ρ l = some vs
  | [], vs, h => by simpa only [EV.concs] using h
  | e :: l, vs, h => by
    simp only [EV.concs] at h ⊢
    cases h1 : EV.conc σ ρ e with
    | none => rw [h1] at h; cases h
    | some v =>
      cases h2 : EV.concs σ ρ l with
      | none => rw [h1, h2] at h; cases h
      | some vs' => rw [h1, h2] at h; rw [EV.conc_mono hs ρ e v h1, EV.concs_mono hs ρ l vs' h2]; exact h
end
section
variable {σ : Sg} {ρ : Nat → Value}
theorem concs_cons {e : EV} {l : List EV} {vs : List Value} (h : EV.concs σ ρ (e :: l) = some vs) : ∃ v r, vs = v :: r ∧ e.conc σ ρ = some v ∧ EV.concs σ ρ l = some r := by
  simp only [EV.concs] at h
  cases h1 : EV.conc σ ρ e with
  | none => rw [h1] at h; cases h
  | some v =>
    cases h2 : EV.concs σ ρ l with
    | none => rw [h1, h2] at h; cases h
    | some r => rw [h1, h2] at h; injection h with h; exact ⟨v, r, h.symm, rfl, rfl⟩
theorem concs_mk {e : EV} {l : List EV} {v : Value} {r : List Value} (h1 : e.conc σ ρ = some v) (h2 : EV.concs σ ρ l = some r) : EV.concs σ ρ (e :: l) = some (v :: r) := by
  simp only [EV.concs, h1, h2]
theorem concs_length : ∀ {l : List EV} {vs : List Value}, EV.concs σ ρ l = some vs → vs.length = l.length
  | [], vs, h => by simp only [EV.concs, Option.some.injEq] at h; subst h; rfl
  | e :: l, vs, h => by
    obtain ⟨v, r, rfl, _, h2⟩ := concs_cons h
    rw [List.length_cons, List.length_cons, concs_length h2]
theorem concs_get : ∀ {l : List EV} {vs : List Value}, EV.concs σ ρ l = some vs → ∀ (i : Nat) (e : EV), l[i]? = some e → ∃ v, vs[i]? = some v ∧ e.conc σ ρ = some v
  | [], _, _, i, e, he => by simp at he
  | a :: l, vs, h, 0, e, he => by
    obtain ⟨v, r, rfl, h1, h2⟩ := concs_cons h
    simp only [List.getElem?_cons_zero, Option.some.injEq] at he
    subst he
    exact ⟨v, rfl, h1⟩
  | a :: l, vs, h, i + 1, e, he => by
    obtain ⟨v, r, rfl, h1, h2⟩ := concs_cons h
    exact concs_get h2 i e (by simpa using he)
theorem concs_append : ∀ {l l' : List EV} {vs vs' : List Value}, EV.concs σ ρ l = some vs → EV.concs σ ρ l' = some vs' → EV.concs σ ρ (l ++ l') = some (vs ++ vs')
  | [], _, vs, _, h, h' => by simp only [EV.concs, Option.some.injEq] at h; subst h; exact h'
  | a :: l, l', vs, vs', h, h' => by
    obtain ⟨v, r, rfl, h1, h2⟩ := concs_cons h
    exact concs_mk h1 (concs_append h2 h')
theorem concs_drop : ∀ (k : Nat) {l : List EV} {vs : List Value}, EV.concs σ ρ l = some vs → EV.concs σ ρ (l.drop k) = some (vs.drop k)
  | 0, _, _, h => h
  | _ + 1, [], _, h => by simp only [EV.concs, Option.some.injEq] at h; subst h; rfl
  | k + 1, a :: l, vs, h => by
    obtain ⟨v, r, rfl, h1, h2⟩ := concs_cons h
    exact concs_drop k h2
theorem takeN_concs : ∀ {k : Nat} {l l' : List EV} {vs : List Value}, EV.concs σ ρ l = some vs → takeN k l = some l' → EV.concs σ ρ l' = some (vs.take k) ∧ k ≤ vs.length
  | 0, _, _, _, _, h => by simp only [takeN, Option.some.injEq] at h; subst h; exact ⟨rfl, Nat.zero_le _⟩
  | k + 1, [], _, _, _, h => by simp [takeN] at h
  | k + 1, a :: l, l', vs, hc, h => by
    obtain ⟨v, r, rfl, h1, h2⟩ := concs_cons hc
    simp only [takeN] at h
    cases h3 : takeN k l with
    | none => rw [h3] at h; cases h
    | some x =>
      rw [h3] at h
      injection h with h
      subst h
      obtain ⟨h4, h5⟩ := takeN_concs h2 h3
      exact ⟨concs_mk h1 h4, by rw [List.length_cons]; omega⟩
theorem setCells_concs : ∀ {cs : List EV} {off : Nat} {xs l : List EV} {vs us : List Value}, EV.concs σ ρ cs = some vs → EV.concs σ ρ xs = some us → setCells cs off xs = some l →
    ∃ ws, EV.concs σ ρ l = some ws ∧ ws.length = vs.length ∧ off + us.length ≤ vs.length ∧ ∀ j, ws[j]? = if off ≤ j ∧ j < off + us.length then us[j - off]? else vs[j]?
  | cs, 0, [], l, vs, us, hc, hx, h => by
    simp only [EV.concs, Option.some.injEq] at hx
    subst hx
    have h' : some cs = some l := by cases cs <;> exact h
    injection h' with h'
    subst h'
    exact ⟨vs, hc, rfl, by simp, fun j => by rw [if_neg (by simp)]⟩
  | [], 0, _ :: _, _, _, _, _, _, h => by simp [setCells] at h
  | c :: cs, 0, x :: xs, l, vs, us, hc, hx, h => by
    obtain ⟨v, r, rfl, h1, h2⟩ := concs_cons hc
    obtain ⟨u, s, rfl, h3, h4⟩ := concs_cons hx
    simp only [setCells] at h
    cases h5 : setCells cs 0 xs with
    | none => rw [h5] at h; cases h
    | some y =>
      rw [h5] at h
      injection h with h
      subst h
      obtain ⟨ws, h6, h7, h8, h9⟩ := setCells_concs h2 h4 h5
      refine ⟨u :: ws, concs_mk h3 h6, by simp [h7], by simp at h8 ⊢; omega, fun j => ?_⟩
      cases j with
      | zero => simp
      | succ j =>
        rw [List.getElem?_cons_succ, h9 j]
        simp
  | [], _ + 1, _, _, _, _, _, _, h => by simp [setCells] at h
  | c :: cs, n + 1, xs, l, vs, us, hc, hx, h => by
    obtain ⟨v, r, rfl, h1, h2⟩ := concs_cons hc
    simp only [setCells] at h
    cases h5 : setCells cs n xs with
    | none => rw [h5] at h; cases h
    | some y =>
      rw [h5] at h
      injection h with h
      subst h
      obtain ⟨ws, h6, h7, h8, h9⟩ := setCells_concs h2 hx h5
      refine ⟨v :: ws, concs_mk h1 h6, by simp [h7], by simp; omega, fun j => ?_⟩
      cases j with
      | zero => simp
      | succ j =>
        rw [List.getElem?_cons_succ, h9 j, List.getElem?_cons_succ, Nat.add_sub_add_right]
        by_cases hj : n ≤ j ∧ j < n + us.length
        · rw [if_pos hj, if_pos (by omega)]
        · rw [if_neg hj, if_neg (by omega)]
theorem cells_conc {e : EV} {v : Value} (h : e.conc σ ρ = some v) : EV.concs σ ρ e.cells = some v.cells.toList := by
  have one : ∀ x : Value, e.cells = [e] → v = x → (∀ cs, x ≠ .agg cs) → EV.concs σ ρ e.cells = some v.cells.toList := fun x h1 h2 h3 => by
    subst h2
    rw [h1]
    have : v.cells = #[v] := by cases v <;> first | rfl | exact absurd rfl (h3 _)
    rw [this]
    exact concs_mk h rfl
  cases e with
  | agg cs =>
    simp only [EV.conc] at h
    cases h1 : EV.concs σ ρ cs with
    | none => rw [h1] at h; cases h
    | some l => rw [h1] at h; injection h with h; subst h; simpa [EV.cells, Value.cells] using h1
  | any => simp [EV.conc] at h
  | ptr id off =>
    simp only [EV.conc] at h
    split at h
    · injection h with h; exact one _ rfl h.symm (fun _ e => by cases e)
    · cases h
  | map id =>
    simp only [EV.conc] at h
    split at h
    · injection h with h; exact one _ rfl h.symm (fun _ e => by cases e)
    · cases h
  | asl id base len sz =>
    simp only [EV.conc] at h
    split at h
    · injection h with h; exact one _ rfl h.symm (fun _ e => by cases e)
    · cases h
  | slc id off len sz =>
    simp only [EV.conc] at h
    split at h
    · split at h
      · injection h with h; exact one _ rfl h.symm (fun _ e => by cases e)
      · cases h
    · cases h
  | fn f a c =>
    simp only [EV.conc] at h
    split at h
    · injection h with h; exact one _ rfl h.symm (fun _ e => by cases e)
    · cases h
  | tup cs =>
    simp only [EV.conc] at h
    split at h
    · injection h with h; exact one _ rfl h.symm (fun _ e => by cases e)
    · cases h
  | sint k i lo hi =>
    simp only [EV.conc] at h
    split at h
    · split at h
      · injection h with h; exact one _ rfl h.symm (fun _ e => by cases e)
      · cases h
    · cases h
  | sstr i lo hi =>
    simp only [EV.conc] at h
    split at h
    · split at h
      · injection h with h; exact one _ rfl h.symm (fun _ e => by cases e)
      · cases h
    · cases h
  | slen i lo hi =>
    simp only [EV.conc] at h
    split at h
    · split at h
      · injection h with h; exact one _ rfl h.symm (fun _ e => by cases e)
      · cases h
    · cases h
  | bool b => simp only [EV.conc, Option.some.injEq] at h; exact one _ rfl h.symm (fun _ e => by cases e)
  | int k n => simp only [EV.conc, Option.some.injEq] at h; exact one _ rfl h.symm (fun _ e => by cases e)
  | str s => simp only [EV.conc, Option.some.injEq] at h; exact one _ rfl h.symm (fun _ e => by cases e)
  | nilp => simp only [EV.conc, Option.some.injEq] at h; exact one _ rfl h.symm (fun _ e => by cases e)
  | nils => simp only [EV.conc, Option.some.injEq] at h; exact one _ rfl h.symm (fun _ e => by cases e)
  | nilm => simp only [EV.conc, Option.some.injEq] at h; exact one _ rfl h.symm (fun _ e => by cases e)
  | nilf => simp only [EV.conc, Option.some.injEq] at h; exact one _ rfl h.symm (fun _ e => by cases e)
end
end Ev
end Go.Proofs.YtmpokappjogehaaGreatDoor
