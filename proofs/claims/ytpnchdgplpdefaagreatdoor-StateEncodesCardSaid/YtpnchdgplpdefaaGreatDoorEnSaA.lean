/- State: comparisons; the clock's name: written by genSaB.py. -/
import Derived.Deep.MidRow
import Derived.Test.YtpnchdgplpdefaaGreatDoorEnGwA
import Derived.Test.YtpnchdgplpdefaaGreatDoorEnGwB
namespace Go.Proofs.YtpnchdgplpdefaaGreatDoor
open Go.RowKit
def SameW (w : World) (v : Value) (e : Ending) (w' : World) : Prop := e = .returned v ∧ w = w'
def Held (p : Prop) : Prop := p
theorem Held.go {p : Prop} (h : Held p) : p := h
theorem run_loadVar_add {P : Program} (w : World) (ad : Addr) (ty : TypeId) (cs : List Value) (d : TypeDesc) (hc : ∀ j v, cs[j]? = some v → w.cell? (ad.add j) = some v)
  (hu : P.underlying ty = some d) (hd : d.isRow = true) (hi : (P.info? ty).map (·.size) = some cs.length) : (loadVar ty ad).run P w = .ok (.agg cs.toArray) w := by
 have hl : (loadCells ad cs.length).run P w = .ok cs.toArray w := run_loadCells_list (P := P) w ad cs hc
 cases hq : P.info? ty with
 | none => simp [hq] at hi
 | some i =>
  have hs : i.size = cs.length := by simpa [hq] using hi
  have hagg : (isAgg ty).run P w = .ok true w := by
   unfold isAgg
   rw [Sem.run_bind, run_underlying hu w]
   cases d <;> simp_all
  simp [loadVar, Sem.run_bind, hagg, sizeOf, typeInfo, hq, hs, hl]
theorem wp_load_add {P : Program} {op : Oper} {a : Act} {w : World} {K : Act → World → Prop} {Q : Exit → Act → World → Prop} (ty : TypeId) (x : Operand) (ho : op.op = .load ty x)
  (ad : Addr) (hx : a.eval x = .pointer (some ad)) (cs : List Value) (d : TypeDesc) (hc : ∀ j v, cs[j]? = some v → w.cell? (ad.add j) = some v)
  (hu : P.underlying ty = some d) (hd : d.isRow = true) (hi : (P.info? ty).map (·.size) = some cs.length)
  (h : K (a.put op.dst (.agg cs.toArray)) w) : op.wp P a w K Q := by
 unfold Oper.wp execOp
 simp only [ho, hx, Instr.loadAt, Instr.sureAddr, Sem.run_bind, Sem.run_pure, Result.andThen_ok, run_loadVar_add w ad ty cs d hc hu hd hi]
 exact h
theorem wpList_load_add {P : Program} {ops : Array Oper} {rest : List Oper} {op : Oper} {a : Act} {w : World} {Q : Exit → Act → World → Prop} (hgd : op.guard = none) (ty : TypeId) (x : Operand) (ho : op.op = .load ty x)
  (ad : Addr) (hx : a.eval x = .pointer (some ad)) (cs : List Value) (d : TypeDesc) (hc : ∀ j v, cs[j]? = some v → w.cell? (ad.add j) = some v)
  (hu : P.underlying ty = some d) (hd : d.isRow = true) (hi : (P.info? ty).map (·.size) = some cs.length)
  (h : wpList P ops Q rest (a.put op.dst (.agg cs.toArray)) w) : wpList P ops Q (op :: rest) a w :=
 wpList_plain hgd fun _ hK => wp_load_add ty x ho ad hx cs d hc hu hd hi (hK _ _ h)
structure NameV where
 kind : Int
 owner : ByteArray
 number : Int
 index : Int
 text : ByteArray
def NameV.cells (n : NameV) : List Value := [.int .i64 n.kind, .string n.owner, .int .i64 n.number, .int .i64 n.index, .string n.text]
def NameV.val (n : NameV) : Value := .agg n.cells.toArray
theorem NameV.cells_length (n : NameV) : n.cells.length = 5 := rfl
theorem infoName : (Tryz.prog.info? 44).map (·.size) = some 5 := by kernel_rfl
inductive Tr where
 | leaf
 | node (l : Tr) (nm : NameV) (v : ByteArray) (r : Tr)
def Tr.height : Tr → Nat
 | .leaf => 0
 | .node l _ _ r => 1 + max l.height r.height
def Tr.size : Tr → Nat
 | .leaf => 0
 | .node l _ _ r => 1 + l.size + r.size
def Tr.bytes : Tr → Nat
 | .leaf => 0
 | .node l _ v r => v.size + l.bytes + r.bytes
theorem Tr.height_le : ∀ t : Tr, t.height ≤ t.size
 | .leaf => Nat.le_refl _
 | .node l _ _ r => by
  have := l.height_le
  have := r.height_le
  simp only [Tr.height, Tr.size]
  omega
def nodeC (la ra : Option Addr) (t : Tr) : List Value :=
 match t with
 | .leaf => []
 | .node _ nm v _ => [.pointer la, .pointer ra] ++ nm.cells ++ [.string v, .int .i64 (t.height : Nat), .int .i64 (t.size : Nat), .int .i64 (t.bytes : Nat)]
set_option maxRecDepth 100000 in
theorem built_node (la ra : Option Addr) (nm : NameV) (v : ByteArray) (h z y : Int) :
  Tryz.prog.built 69 [(0, .pointer la), (1, .pointer ra), (2, .agg #[.int .i64 nm.kind, .string nm.owner, .int .i64 nm.number, .int .i64 nm.index, .string nm.text]), (3, .string v), (4, .int .i64 h), (5, .int .i64 z), (6, .int .i64 y)] = some #[.pointer la, .pointer ra, .int .i64 nm.kind, .string nm.owner, .int .i64 nm.number, .int .i64 nm.index, .string nm.text, .string v, .int .i64 h, .int .i64 z, .int .i64 y] := by kernel_rfl
theorem wpList_built {P : Program} {ops : Array Oper} {rest : List Oper} {o : Oper} {a : Act} {w : World} {Q : Exit → Act → World → Prop} (hg : o.guard = none) (t : TypeId) (parts : Array (Nat × Operand)) (ho : o.op = .build t parts)
  (cells : Array Value) (vs : List (Nat × Value)) (hv : (parts.map fun (i, x) => (i, a.eval x)).toList = vs) (hf : P.built t vs = some cells) (h : wpList P ops Q rest (a.put o.dst (.agg cells)) w) : wpList P ops Q (o :: rest) a w := by
 subst hv
 exact wpList_plain hg fun _ hK => wp_build t parts ho (by rw [hf]; rfl) (by rw [hf]; exact hK _ _ h)
def NodH (w : World) : Option Addr → Tr → Prop
 | a, .leaf => a = none
 | a, .node l nm v r => ∃ g la ra, a = some ⟨g, 0, none⟩ ∧ NodH w la l ∧ NodH w ra r ∧ Blk w g 69 (nodeC la ra (.node l nm v r)).toArray
theorem NodH.fr0 {w w' : World} : ∀ {a : Option Addr} {t : Tr}, NodH w a t → Fr Nothing w w' → NodH w' a t
 | _, .leaf, h, _ => h
 | _, .node _ _ _ _, ⟨g, la, ra, e, h1, h2, hb⟩, hf => ⟨g, la, ra, e, h1.fr0 hf, h2.fr0 hf, hb.fr hf (fun x => x)⟩
structure Mid (w : World) (g : Nat) (nm : NameV) (v : ByteArray) : Prop where
 name : ∀ j x, nm.cells[j]? = some x → w.cell? ⟨g, 2 + j, none⟩ = some x
 val : w.cell? ⟨g, 7, none⟩ = some (.string v)
theorem Mid.fr0 {w w' : World} {g : Nat} {nm : NameV} {v : ByteArray} (h : Mid w g nm v) (hf : Fr Nothing w w') : Mid w' g nm v :=
 ⟨fun j x hx => hf.cellSome (h.name j x hx) (fun x => x), hf.cellSome h.val (fun x => x)⟩
theorem Mid.of {w : World} {g : Nat} {a b c d e : Value} {nm : NameV} {v : ByteArray} (h : Blk w g 69 ([a, b] ++ nm.cells ++ [.string v, c, d, e]).toArray) : Mid w g nm v := by
 refine ⟨fun j x hx => ?_, h.cell 7⟩
 have hj : j < 5 := (List.getElem?_eq_some_iff.1 hx).1
 rw [h.cell, List.getElem?_toArray, List.append_assoc, List.getElem?_append_right (by simp), List.getElem?_append_left (by simp [NameV.cells]; omega)]
 rw [show 2 + j - [a, b].length = j by simp]
 exact hx
theorem NodH.mid {w : World} {g : Nat} {l r : Tr} {nm : NameV} {v : ByteArray} (h : NodH w (some ⟨g, 0, none⟩) (.node l nm v r)) : Mid w g nm v := by
 obtain ⟨g', la, ra, e, _, _, hb⟩ := h
 cases e
 exact Mid.of hb
set_option maxRecDepth 100000 in
theorem heightOf_any (w : World) (a : Option Addr) (t : Tr) (h : NodH w a t) : Calls Tryz.prog 97 #[.pointer a] w (SameW w (.int .i64 (t.height : Nat))) := by
 cases t with
 | leaf =>
  obtain rfl : a = none := h
  go_enter Tryz.func97, Tryz.ntmps97
  go_wp2
  go_ret
  exact ⟨rfl, rfl⟩
 | node l nm v r =>
  obtain ⟨g, la, ra, rfl, _, _, hb⟩ := h
  have c : w.cell? ⟨g, 8, none⟩ = some (.int .i64 ((Tr.node l nm v r).height : Nat)) := hb.cell 8
  generalize (Tr.node l nm v r).height = x at *
  clear hb
  go_enter Tryz.func97, Tryz.ntmps97
  go_wp2
  go_ret
  exact ⟨rfl, rfl⟩
set_option maxRecDepth 100000 in
theorem sizeOf_any (w : World) (a : Option Addr) (t : Tr) (h : NodH w a t) : Calls Tryz.prog 52 #[.pointer a] w (SameW w (.int .i64 (t.size : Nat))) := by
 cases t with
 | leaf =>
  obtain rfl : a = none := h
  go_enter Tryz.func52, Tryz.ntmps52
  go_wp2
  go_ret
  exact ⟨rfl, rfl⟩
 | node l nm v r =>
  obtain ⟨g, la, ra, rfl, _, _, hb⟩ := h
  have c : w.cell? ⟨g, 9, none⟩ = some (.int .i64 ((Tr.node l nm v r).size : Nat)) := hb.cell 9
  generalize (Tr.node l nm v r).size = x at *
  clear hb
  go_enter Tryz.func52, Tryz.ntmps52
  go_wp2
  go_ret
  exact ⟨rfl, rfl⟩
set_option maxRecDepth 100000 in
theorem bytesOf_any (w : World) (a : Option Addr) (t : Tr) (h : NodH w a t) : Calls Tryz.prog 74 #[.pointer a] w (SameW w (.int .i64 (t.bytes : Nat))) := by
 cases t with
 | leaf =>
  obtain rfl : a = none := h
  go_enter Tryz.func74, Tryz.ntmps74
  go_wp2
  go_ret
  exact ⟨rfl, rfl⟩
 | node l nm v r =>
  obtain ⟨g, la, ra, rfl, _, _, hb⟩ := h
  have c : w.cell? ⟨g, 10, none⟩ = some (.int .i64 ((Tr.node l nm v r).bytes : Nat)) := hb.cell 10
  generalize (Tr.node l nm v r).bytes = x at *
  clear hb
  go_enter Tryz.func74, Tryz.ntmps74
  go_wp2
  go_ret
  exact ⟨rfl, rfl⟩
set_option maxRecDepth 100000 in
set_option maxHeartbeats 600000 in
theorem join_any (w : World) (la ra : Option Addr) (l r : Tr) (g : Nat) (nm : NameV) (v : ByteArray) (hl0 : NodH w la l) (hr0 : NodH w ra r) (hm0 : Mid w g nm v) (hs : l.size + r.size ≤ 1048576) (hb : v.size + l.bytes + r.bytes ≤ 1099511627776) :
  Calls Tryz.prog 80 #[.pointer la, .pointer (some ⟨g, 0, none⟩), .pointer ra] w (fun e w' => ∃ a, e = .returned (.pointer a) ∧ NodH w' a (.node l nm v r) ∧ Fr Nothing w w') := by
 have CHl : Hid (∀ w', Fr Nothing w w' → Calls Tryz.prog 97 #[.pointer la] w' (SameW w' (.int .i64 (l.height : Nat)))) := fun w' hf => heightOf_any w' la l (hl0.fr0 hf)
 have CHr : Hid (∀ w', Fr Nothing w w' → Calls Tryz.prog 97 #[.pointer ra] w' (SameW w' (.int .i64 (r.height : Nat)))) := fun w' hf => heightOf_any w' ra r (hr0.fr0 hf)
 have CSl : Hid (∀ w', Fr Nothing w w' → Calls Tryz.prog 52 #[.pointer la] w' (SameW w' (.int .i64 (l.size : Nat)))) := fun w' hf => sizeOf_any w' la l (hl0.fr0 hf)
 have CSr : Hid (∀ w', Fr Nothing w w' → Calls Tryz.prog 52 #[.pointer ra] w' (SameW w' (.int .i64 (r.size : Nat)))) := fun w' hf => sizeOf_any w' ra r (hr0.fr0 hf)
 have CBl : Hid (∀ w', Fr Nothing w w' → Calls Tryz.prog 74 #[.pointer la] w' (SameW w' (.int .i64 (l.bytes : Nat)))) := fun w' hf => bytesOf_any w' la l (hl0.fr0 hf)
 have CBr : Hid (∀ w', Fr Nothing w w' → Calls Tryz.prog 74 #[.pointer ra] w' (SameW w' (.int .i64 (r.bytes : Nat)))) := fun w' hf => bytesOf_any w' ra r (hr0.fr0 hf)
 have HM := Lib.hid hm0
 have hhl := l.height_le
 have hhr := r.height_le
 have FIN : Hid (∀ w' g', Fr Nothing w w' → Blk w' g' 69 (nodeC la ra (.node l nm v r)).toArray → NodH w' (some ⟨g', 0, none⟩) (.node l nm v r)) := fun w' g' hf hB => ⟨g', la, ra, rfl, hl0.fr0 hf, hr0.fr0 hf, hB⟩
 have NC : Hid (nodeC la ra (.node l nm v r) = [.pointer la, .pointer ra] ++ nm.cells ++ [.string v, .int .i64 ((1 + max l.height r.height : Nat) : Int), .int .i64 ((1 + l.size + r.size : Nat) : Int), .int .i64 ((v.size + l.bytes + r.bytes : Nat) : Int)]) := rfl
 generalize nodeC la ra (.node l nm v r) = NCv at *
 obtain ⟨hl, ehl⟩ : ∃ hl, hl = l.height := ⟨_, rfl⟩
 obtain ⟨hr, ehr⟩ : ∃ hr, hr = r.height := ⟨_, rfl⟩
 obtain ⟨sl, esl⟩ : ∃ sl, sl = l.size := ⟨_, rfl⟩
 obtain ⟨sr, esr⟩ : ∃ sr, sr = r.size := ⟨_, rfl⟩
 obtain ⟨bl, ebl⟩ : ∃ bl, bl = l.bytes := ⟨_, rfl⟩
 obtain ⟨br, ebr⟩ : ∃ br, br = r.bytes := ⟨_, rfl⟩
 rw [← ehl] at CHl hhl NC
 rw [← ehr] at CHr hhr NC
 rw [← esl] at CSl hs hhl NC
 rw [← esr] at CSr hs hhr NC
 rw [← ebl] at CBl hb NC
 rw [← ebr] at CBr hb NC
 obtain ⟨hm, ehm⟩ : ∃ hm : Nat, max (hl : Int) (hr : Int) = (hm : Int) := ⟨max hl hr, by omega⟩
 obtain ⟨h1, eh1⟩ : ∃ h1 : Nat, (1 : Int) + (hm : Int) = (h1 : Int) := ⟨1 + hm, by omega⟩
 obtain ⟨s1, es1⟩ : ∃ s1 : Nat, (1 : Int) + (sl : Int) = (s1 : Int) := ⟨1 + sl, by omega⟩
 obtain ⟨s2, es2⟩ : ∃ s2 : Nat, (s1 : Int) + (sr : Int) = (s2 : Int) := ⟨s1 + sr, by omega⟩
 obtain ⟨b1, eb1⟩ : ∃ b1 : Nat, (v.size : Int) + (bl : Int) = (b1 : Int) := ⟨v.size + bl, by omega⟩
 obtain ⟨b2, eb2⟩ : ∃ b2 : Nat, (b1 : Int) + (br : Int) = (b2 : Int) := ⟨b1 + br, by omega⟩
 have wh : IntKind.i64.wrap (h1 : Int) = (h1 : Int) := IntWalk.i64_in _ (by omega)
 have ws1 : IntKind.i64.wrap (s1 : Int) = (s1 : Int) := IntWalk.i64_in _ (by omega)
 have ws2 : IntKind.i64.wrap (s2 : Int) = (s2 : Int) := IntWalk.i64_in _ (by omega)
 have wb1 : IntKind.i64.wrap (b1 : Int) = (b1 : Int) := IntWalk.i64_in _ (by omega)
 have wb2 : IntKind.i64.wrap (b2 : Int) = (b2 : Int) := IntWalk.i64_in _ (by omega)
 rw [show (1 + max hl hr : Nat) = h1 by omega, show (1 + sl + sr : Nat) = s2 by omega, show v.size + bl + br = b2 by omega] at NC
 have BN : Hid (Tryz.prog.built 69 [(0, .pointer la), (1, .pointer ra), (2, .agg nm.cells.toArray), (3, .string v), (4, .int .i64 (h1 : Nat)), (5, .int .i64 (s2 : Nat)), (6, .int .i64 (b2 : Nat))] = some NCv.toArray) := by rw [NC.out]; exact built_node la ra nm v _ _ _
 clear hl0 hr0 hm0 ehl ehr esl esr ebl ebr hhl hhr hs hb
 go_enter Tryz.func80, Tryz.ntmps80
 go_upto_region 1 with fail
 refine wp_region_st 33 Nothing [Is (.pointer la), Is (.pointer ra), Is (.pointer (some ⟨g, 0, none⟩)), Is (.pointer (some ⟨g, 0, none⟩)), Is (.pointer (some ⟨g, 2, none⟩)), Is (.agg nm.cells.toArray), Is (.pointer (some ⟨g, 0, none⟩)), Is (.pointer (some ⟨g, 0, none⟩)), Is (.pointer (some ⟨g, 7, none⟩)), Is (.string v), Is (.pointer la), Is (.int .i64 hl), Is (.pointer ra), Is (.int .i64 hr), Is (.int .i64 hm), Is (.int .i64 h1), Is (.pointer la), Is (.int .i64 sl), Is (.int .i64 s1), Is (.pointer ra), Is (.int .i64 sr), Is (.int .i64 s2), Is (.pointer (some ⟨g, 0, none⟩)), Is (.pointer (some ⟨g, 0, none⟩)), Is (.pointer (some ⟨g, 7, none⟩)), Is (.string v), Is (.int .i64 v.size), Is (.pointer la), Is (.int .i64 bl), Is (.int .i64 b1), Is (.pointer ra), Is (.int .i64 br), Is (.int .i64 b2)] [] (fun _ => True) (fun _ _ => false) (by kernel_rfl) (by kernel_rfl) (by kernel_rfl) (by kernel_rfl) ⟨Is.stable _, Is.stable _, Is.stable _, Is.stable _, Is.stable _, Is.stable _, Is.stable _, Is.stable _, Is.stable _, Is.stable _, Is.stable _, Is.stable _, Is.stable _, Is.stable _, Is.stable _, Is.stable _, Is.stable _, Is.stable _, Is.stable _, Is.stable _, Is.stable _, Is.stable _, Is.stable _, Is.stable _, Is.stable _, Is.stable _, Is.stable _, Is.stable _, Is.stable _, Is.stable _, Is.stable _, Is.stable _, Is.stable _, trivial⟩ trivial (fun _ _ _ _ h => h) trivial ?_ ?_
 ·refine ⟨fun u w' d hf hR k1 k0 kM => ?_, fun u w' d hf hR k1 k0 kM => ?_, fun u w' d hf hR k1 k0 kM => ?_, fun u w' d hf hR k1 k0 kM => ?_, fun u w' d hf hR k1 k0 kM => ?_, fun u w' d hf hR k1 k0 kM => ?_, fun u w' d hf hR k1 k0 kM => ?_, fun u w' d hf hR k1 k0 kM => ?_, fun u w' d hf hR k1 k0 kM => ?_, fun u w' d hf hR k1 k0 kM => ?_, fun u w' d hf hR k1 k0 kM => ?_, fun u w' d hf hR k1 k0 kM => ?_, fun u w' d hf hR k1 k0 kM => ?_, fun u w' d hf hR k1 k0 kM => ?_, fun u w' d hf hR k1 k0 kM => ?_, fun u w' d hf hR k1 k0 kM => ?_, fun u w' d hf hR k1 k0 kM => ?_, fun u w' d hf hR k1 k0 kM => ?_, fun u w' d hf hR k1 k0 kM => ?_, fun u w' d hf hR k1 k0 kM => ?_, fun u w' d hf hR k1 k0 kM => ?_, fun u w' d hf hR k1 k0 kM => ?_, fun u w' d hf hR k1 k0 kM => ?_, fun u w' d hf hR k1 k0 kM => ?_, fun u w' d hf hR k1 k0 kM => ?_, fun u w' d hf hR k1 k0 kM => ?_, fun u w' d hf hR k1 k0 kM => ?_, fun u w' d hf hR k1 k0 kM => ?_, fun u w' d hf hR k1 k0 kM => ?_, fun u w' d hf hR k1 k0 kM => ?_, fun u w' d hf hR k1 k0 kM => ?_, fun u w' d hf hR k1 k0 kM => ?_, fun u w' d hf hR k1 k0 kM => ?_, trivial⟩
  all_goals simp only [List.take_succ_cons, List.take_zero, List.map_cons, List.map_nil, puts, Act.put, List.setIfInBounds_toArray, List.set_cons_zero, List.set_cons_succ, Nat.reduceAdd, Nat.zero_add]
  ·clear hR k1 k0 kM
   refine .inl ⟨by kernel_rfl, ?_⟩
   go_simp
   exact ⟨_, rfl, Fr.refl _ _, rfl, trivial⟩
  ·clear hR k1 k0 kM
   refine .inl ⟨by kernel_rfl, ?_⟩
   go_simp
   exact ⟨_, rfl, Fr.refl _ _, rfl, trivial⟩
  ·clear hR k1 k0 kM
   refine .inl ⟨by kernel_rfl, ?_⟩
   go_simp
   exact ⟨_, rfl, Fr.refl _ _, rfl, trivial⟩
  ·have h2 : u 2 = _ := hR 2 (by kernel_rfl)
   clear hR k1 k0 kM
   simp only [h2]
   refine .inl ⟨by kernel_rfl, ?_⟩
   go_simp
   exact ⟨_, rfl, Fr.refl _ _, rfl, trivial⟩
  ·have h3 : u 3 = _ := hR 3 (by kernel_rfl)
   clear hR k1 k0 kM
   simp only [h3]
   refine .inl ⟨by kernel_rfl, ?_⟩
   go_simp
   exact ⟨_, rfl, Fr.refl _ _, rfl, trivial⟩
  ·have h4 : u 4 = _ := hR 4 (by kernel_rfl)
   clear hR k1 k0 kM
   simp only [h4]
   refine .inl ⟨by kernel_rfl, ?_⟩
   exact wp_load_add _ _ rfl ⟨g, 2, none⟩ rfl nm.cells _ (fun j x hx => by rw [Addr.add_mid]; exact hf.cellSome (HM.out.name j x hx) (fun x => x)) Tryz.underlying44 rfl infoName ⟨_, rfl, Fr.refl _ _, rfl, trivial⟩
  ·clear hR k1 k0 kM
   refine .inl ⟨by kernel_rfl, ?_⟩
   go_simp
   exact ⟨_, rfl, Fr.refl _ _, rfl, trivial⟩
  ·have h6 : u 6 = _ := hR 6 (by kernel_rfl)
   clear hR k1 k0 kM
   simp only [h6]
   refine .inl ⟨by kernel_rfl, ?_⟩
   go_simp
   exact ⟨_, rfl, Fr.refl _ _, rfl, trivial⟩
  ·have h7 : u 7 = _ := hR 7 (by kernel_rfl)
   clear hR k1 k0 kM
   simp only [h7]
   refine .inl ⟨by kernel_rfl, ?_⟩
   go_simp
   exact ⟨_, rfl, Fr.refl _ _, rfl, trivial⟩
  ·have h8 : u 8 = _ := hR 8 (by kernel_rfl)
   clear hR k1 k0 kM
   simp only [h8]
   refine .inl ⟨by kernel_rfl, ?_⟩
   have hc : w'.cell? ⟨g, 7, none⟩ = some (.string v) := hf.cellSome HM.out.val (fun x => x)
   go_simp
   exact ⟨_, rfl, Fr.refl _ _, rfl, trivial⟩
  ·clear hR k1 k0 kM
   refine .inl ⟨by kernel_rfl, ?_⟩
   go_simp
   exact ⟨_, rfl, Fr.refl _ _, rfl, trivial⟩
  ·have h10 : u 10 = _ := hR 10 (by kernel_rfl)
   clear hR k1 k0 kM
   simp only [h10]
   refine .inl ⟨by kernel_rfl, ?_⟩
   go_simp
   refine (CHl.out _ hf).mono ?_
   rintro e w4 ⟨rfl, rfl⟩
   exact ⟨_, rfl, Fr.refl _ _, rfl, trivial⟩
  ·clear hR k1 k0 kM
   refine .inl ⟨by kernel_rfl, ?_⟩
   go_simp
   exact ⟨_, rfl, Fr.refl _ _, rfl, trivial⟩
  ·have h12 : u 12 = _ := hR 12 (by kernel_rfl)
   clear hR k1 k0 kM
   simp only [h12]
   refine .inl ⟨by kernel_rfl, ?_⟩
   go_simp
   refine (CHr.out _ hf).mono ?_
   rintro e w4 ⟨rfl, rfl⟩
   exact ⟨_, rfl, Fr.refl _ _, rfl, trivial⟩
  ·have h11 : u 11 = _ := hR 11 (by kernel_rfl)
   have h13 : u 13 = _ := hR 13 (by kernel_rfl)
   clear hR k1 k0 kM
   simp only [h11, h13]
   refine .inl ⟨by kernel_rfl, ?_⟩
   go_simp
   exact ⟨_, rfl, Fr.refl _ _, rfl, trivial⟩
  ·have h14 : u 14 = _ := hR 14 (by kernel_rfl)
   clear hR k1 k0 kM
   simp only [h14]
   refine .inl ⟨by kernel_rfl, ?_⟩
   go_simp
   exact ⟨_, rfl, Fr.refl _ _, rfl, trivial⟩
  ·clear hR k1 k0 kM
   refine .inl ⟨by kernel_rfl, ?_⟩
   go_simp
   exact ⟨_, rfl, Fr.refl _ _, rfl, trivial⟩
  ·have h16 : u 16 = _ := hR 16 (by kernel_rfl)
   clear hR k1 k0 kM
   simp only [h16]
   refine .inl ⟨by kernel_rfl, ?_⟩
   go_simp
   refine (CSl.out _ hf).mono ?_
   rintro e w4 ⟨rfl, rfl⟩
   exact ⟨_, rfl, Fr.refl _ _, rfl, trivial⟩
  ·have h17 : u 17 = _ := hR 17 (by kernel_rfl)
   clear hR k1 k0 kM
   simp only [h17]
   refine .inl ⟨by kernel_rfl, ?_⟩
   go_simp
   exact ⟨_, rfl, Fr.refl _ _, rfl, trivial⟩
  ·clear hR k1 k0 kM
   refine .inl ⟨by kernel_rfl, ?_⟩
   go_simp
   exact ⟨_, rfl, Fr.refl _ _, rfl, trivial⟩
  ·have h19 : u 19 = _ := hR 19 (by kernel_rfl)
   clear hR k1 k0 kM
   simp only [h19]
   refine .inl ⟨by kernel_rfl, ?_⟩
   go_simp
   refine (CSr.out _ hf).mono ?_
   rintro e w4 ⟨rfl, rfl⟩
   exact ⟨_, rfl, Fr.refl _ _, rfl, trivial⟩
  ·have h18 : u 18 = _ := hR 18 (by kernel_rfl)
   have h20 : u 20 = _ := hR 20 (by kernel_rfl)
   clear hR k1 k0 kM
   simp only [h18, h20]
   refine .inl ⟨by kernel_rfl, ?_⟩
   go_simp
   exact ⟨_, rfl, Fr.refl _ _, rfl, trivial⟩
  ·clear hR k1 k0 kM
   refine .inl ⟨by kernel_rfl, ?_⟩
   go_simp
   exact ⟨_, rfl, Fr.refl _ _, rfl, trivial⟩
  ·have h22 : u 22 = _ := hR 22 (by kernel_rfl)
   clear hR k1 k0 kM
   simp only [h22]
   refine .inl ⟨by kernel_rfl, ?_⟩
   go_simp
   exact ⟨_, rfl, Fr.refl _ _, rfl, trivial⟩
  ·have h23 : u 23 = _ := hR 23 (by kernel_rfl)
   clear hR k1 k0 kM
   simp only [h23]
   refine .inl ⟨by kernel_rfl, ?_⟩
   go_simp
   exact ⟨_, rfl, Fr.refl _ _, rfl, trivial⟩
  ·have h24 : u 24 = _ := hR 24 (by kernel_rfl)
   clear hR k1 k0 kM
   simp only [h24]
   refine .inl ⟨by kernel_rfl, ?_⟩
   have hc : w'.cell? ⟨g, 7, none⟩ = some (.string v) := hf.cellSome HM.out.val (fun x => x)
   go_simp
   exact ⟨_, rfl, Fr.refl _ _, rfl, trivial⟩
  ·have h25 : u 25 = _ := hR 25 (by kernel_rfl)
   clear hR k1 k0 kM
   simp only [h25]
   refine .inl ⟨by kernel_rfl, ?_⟩
   go_simp
   exact ⟨_, rfl, Fr.refl _ _, rfl, trivial⟩
  ·clear hR k1 k0 kM
   refine .inl ⟨by kernel_rfl, ?_⟩
   go_simp
   exact ⟨_, rfl, Fr.refl _ _, rfl, trivial⟩
  ·have h27 : u 27 = _ := hR 27 (by kernel_rfl)
   clear hR k1 k0 kM
   simp only [h27]
   refine .inl ⟨by kernel_rfl, ?_⟩
   go_simp
   refine (CBl.out _ hf).mono ?_
   rintro e w4 ⟨rfl, rfl⟩
   exact ⟨_, rfl, Fr.refl _ _, rfl, trivial⟩
  ·have h26 : u 26 = _ := hR 26 (by kernel_rfl)
   have h28 : u 28 = _ := hR 28 (by kernel_rfl)
   clear hR k1 k0 kM
   simp only [h26, h28]
   refine .inl ⟨by kernel_rfl, ?_⟩
   go_simp
   exact ⟨_, rfl, Fr.refl _ _, rfl, trivial⟩
  ·clear hR k1 k0 kM
   refine .inl ⟨by kernel_rfl, ?_⟩
   go_simp
   exact ⟨_, rfl, Fr.refl _ _, rfl, trivial⟩
  ·have h30 : u 30 = _ := hR 30 (by kernel_rfl)
   clear hR k1 k0 kM
   simp only [h30]
   refine .inl ⟨by kernel_rfl, ?_⟩
   go_simp
   refine (CBr.out _ hf).mono ?_
   rintro e w4 ⟨rfl, rfl⟩
   exact ⟨_, rfl, Fr.refl _ _, rfl, trivial⟩
  ·have h29 : u 29 = _ := hR 29 (by kernel_rfl)
   have h31 : u 31 = _ := hR 31 (by kernel_rfl)
   clear hR k1 k0 kM
   simp only [h29, h31]
   refine .inl ⟨by kernel_rfl, ?_⟩
   go_simp
   exact ⟨_, rfl, Fr.refl _ _, rfl, trivial⟩
 ·intro u w' hf hR kM
  have k0 : u 0 = _ := hR 0 (by omega)
  have k1 : u 1 = _ := hR 1 (by omega)
  have k5 : u 5 = _ := hR 5 (by omega)
  have k9 : u 9 = _ := hR 9 (by omega)
  have k15 : u 15 = _ := hR 15 (by omega)
  have k21 : u 21 = _ := hR 21 (by omega)
  have k32 : u 32 = _ := hR 32 (by omega)
  clear hR kM
  simp only [List.take_succ_cons, List.take_zero, List.map_cons, List.map_nil, puts, Act.put, List.setIfInBounds_toArray, List.set_cons_zero, List.set_cons_succ, List.drop_succ_cons, List.drop_zero, Nat.reduceAdd, Nat.zero_add, k0, k1, k5, k9, k15, k21, k32]
  have F1 := Lib.hid hf
  clear hf k0 k1 k5 k9 k15 k21 k32 ehm eh1 es1 es2 eb1 eb2 wh ws1 ws2 wb1 wb2 CHl CHr CSl CSr CBl CBr
  go_wp2_with (refine wpList_built rfl 69 _ rfl NCv.toArray _ (by simp only [List.map_toArray, List.map_cons, List.map_nil]; rfl) BN.out (Held.go ?hold))
  unfold Held
  go_wp2_with (refine wpList_boxBlk rfl 69 (.tmp 40) rfl NCv.toArray rfl ?_)
  intro w2 n2
  have N2 := Lib.hid n2
  clear n2
  generalize hg : w'.heap.size = g2 at *
  have HG := Lib.hid hg
  clear hg
  go_wp2
  go_ret
  exact ⟨_, rfl, FIN.out w2 g2 (F1.out.trans N2.out.fr) (by have h := N2.out.blk; rw [HG.out] at h; exact h), F1.out.trans N2.out.fr⟩
end Go.Proofs.YtpnchdgplpdefaaGreatDoor
namespace Go.Proofs.YtpnchdgplpdefaaGreatDoor
open Go.RowKit
theorem isNaN_int (a : Int) (w : World) : Calls Tryz.prog 85 #[.int .i64 a] w (SameW w (.bool false)) := by
 go_enter Tryz.func85, Tryz.ntmps85
 go_wp2
 go_ret
 exact ⟨rfl, rfl⟩
def cmpI (a b : Int) : Int := if a < b then -1 else if b < a then 1 else 0
set_option maxRecDepth 100000 in
theorem cmpInt_any (a b : Int) (w : World) : Calls Tryz.prog 61 #[.int .i64 a, .int .i64 b] w (SameW w (.int .i64 (cmpI a b))) := by
 have C1 := Lib.hid (fun w => isNaN_int a w)
 have C2 := Lib.hid (fun w => isNaN_int b w)
 unfold cmpI
 by_cases h1 : a < b
 ·rw [if_pos h1]
  have t1 : decide (a < b) = true := decide_eq_true h1
  clear h1
  go_enter Tryz.func61, Tryz.ntmps61
  go_wp2_with fail
  refine (C1.out _).mono ?_
  rintro e w' ⟨rfl, rfl⟩
  go_wp2_with fail
  refine (C2.out _).mono ?_
  rintro e w' ⟨rfl, rfl⟩
  go_wp2
  go_ret
  exact ⟨rfl, rfl⟩
 ·rw [if_neg h1]
  have t1 : decide (a < b) = false := decide_eq_false h1
  by_cases h2 : b < a
  ·rw [if_pos h2]
   have t2 : decide (b < a) = true := decide_eq_true h2
   clear h1 h2
   go_enter Tryz.func61, Tryz.ntmps61
   go_wp2_with fail
   refine (C1.out _).mono ?_
   rintro e w' ⟨rfl, rfl⟩
   go_wp2_with fail
   refine (C2.out _).mono ?_
   rintro e w' ⟨rfl, rfl⟩
   go_wp2
   go_ret
   exact ⟨rfl, rfl⟩
  ·rw [if_neg h2]
   have t2 : decide (b < a) = false := decide_eq_false h2
   go_enter Tryz.func61, Tryz.ntmps61
   go_wp2_with fail
   refine (C1.out _).mono ?_
   rintro e w' ⟨rfl, rfl⟩
   go_wp2_with fail
   refine (C2.out _).mono ?_
   rintro e w' ⟨rfl, rfl⟩
   go_wp2
   go_ret
   exact ⟨rfl, rfl⟩
theorem isNaN_str (a : ByteArray) (w : World) : Calls Tryz.prog 89 #[.string a] w (SameW w (.bool false)) := by
 go_enter Tryz.func89, Tryz.ntmps89
 go_wp2
 go_ret
 exact ⟨rfl, rfl⟩
set_option maxRecDepth 100000 in
theorem cmpStr_empty (w : World) : Calls Tryz.prog 64 #[.string ByteArray.empty, .string ByteArray.empty] w (SameW w (.int .i64 0)) := by
 have C1 := Lib.hid (fun w => isNaN_str ByteArray.empty w)
 go_enter Tryz.func64, Tryz.ntmps64
 go_wp2_with fail
 refine (C1.out _).mono ?_
 rintro e w' ⟨rfl, rfl⟩
 go_wp2_with fail
 refine (C1.out _).mono ?_
 rintro e w' ⟨rfl, rfl⟩
 go_wp2
 go_ret
 exact ⟨rfl, rfl⟩
theorem lineageCompare_same (a : ByteArray) (w : World) : Calls Tryz.prog 62 #[.string a, .string a] w (SameW w (.int .i64 0)) := by
 go_enter Tryz.func62, Tryz.ntmps62
 go_wp2
 go_ret
 exact ⟨rfl, rfl⟩
set_option maxRecDepth 100000 in
theorem cmpOr_zero (g : Nat) (w : World) (h : Blk w g 3 #[.int .i64 0, .int .i64 0, .int .i64 0]) : Calls Tryz.prog 63 #[.slice (some ⟨g, 0, none⟩) 3 3] w (SameW w (.int .i64 0)) := by
 have HB := Lib.hid h
 clear h
 go_enter Tryz.func63, Tryz.ntmps63
 go_wp2
 go_loopw [8] (fun i wr => ∃ k : Nat, k ≤ 3 ∧ i = .int .i64 k ∧ w = wr) (fun i _ => 3 - (intOf i).toNat)
 case atStart => exact ⟨0, by omega, rfl, rfl⟩
 case round =>
  obtain ⟨k, hk, rfl, rfl⟩ := hrel
  by_cases hlt : k < 3
  ·have hI : (k : Int) < 3 := by omega
   have hc : w.cell? ⟨g, k, none⟩ = some (.int .i64 0) := by
    rw [HB.out.cell]
    match k, hlt with
    | 0, _ => rfl
    | 1, _ => rfl
    | 2, _ => rfl
   go_wp2
   go_roundw
   case rel => exact ⟨k + 1, by omega, by go_num, trivial⟩
   case measure => simp [intOf]; omega
  ·obtain rfl : k = 3 := by omega
   go_wp2
   go_ret
   exact ⟨rfl, rfl⟩
def clockN : NameV := ⟨15, ByteArray.empty, 0, 0, ByteArray.empty⟩
def clockC : Array Value := #[.int .i64 15, .string ByteArray.empty, .int .i64 0, .int .i64 0, .string ByteArray.empty]
set_option maxRecDepth 100000 in
set_option maxHeartbeats 1000000 in
theorem compare_clock (w : World) : Calls Tryz.prog 32 #[.agg clockC, .agg clockC] w (Same' w (.int .i64 0)) := by
 have C1 := Lib.hid (fun w => cmpInt_any 15 15 w)
 have C2 := Lib.hid (fun w => lineageCompare_same ByteArray.empty w)
 go_enter Tryz.func32, Tryz.ntmps32
 go_wp2_with (refine wpList_boxBlk rfl 44 (.tmp 0) rfl clockC rfl ?_)
 intro w1 n1
 have N1 := Lib.hid n1
 clear n1
 generalize hga : w.heap.size = ga at *
 have HA0 : Hid (Blk w1 ga 44 clockC) := by have h := N1.out.blk; rw [hga] at h; exact h
 clear hga
 go_wp2_with (refine wpList_boxBlk rfl 44 (.tmp 1) rfl clockC rfl ?_)
 intro w2 n2
 have N2 := Lib.hid n2
 clear n2
 generalize hgb : w1.heap.size = gb at *
 have Hgb : Hid (Blk w2 gb 44 clockC) := by have h := N2.out.blk; rw [hgb] at h; exact h
 clear hgb
 have Hga := Lib.hid (HA0.out.fr N2.out.fr (fun x => x))
 have F2 := Lib.hid (N1.out.fr.trans N2.out.fr)
 have ca0 : w2.cell? ⟨ga, 0, none⟩ = some (.int .i64 15) := Hga.out.cell 0
 have cb0 : w2.cell? ⟨gb, 0, none⟩ = some (.int .i64 15) := Hgb.out.cell 0
 have ca1 : w2.cell? ⟨ga, 1, none⟩ = some (.string ByteArray.empty) := Hga.out.cell 1
 have cb1 : w2.cell? ⟨gb, 1, none⟩ = some (.string ByteArray.empty) := Hgb.out.cell 1
 clear N1 N2 HA0
 go_wp2_with fail
 refine (C1.out _).mono ?_
 rintro e w' ⟨rfl, rfl⟩
 rw [show cmpI 15 15 = 0 from rfl]
 go_wp2_with fail
 refine (C2.out _).mono ?_
 rintro e w' ⟨rfl, rfl⟩
 go_upto_region 7 with fail
 clear ca0 cb0 ca1 cb1
 refine wp_region_st 15 Nothing [Is (.pointer (some ⟨ga, 2, none⟩)), Is (.int .i64 0), Is (.pointer (some ⟨gb, 2, none⟩)), Is (.int .i64 0), Is (.int .i64 0), Is (.pointer (some ⟨ga, 3, none⟩)), Is (.int .i64 0), Is (.pointer (some ⟨gb, 3, none⟩)), Is (.int .i64 0), Is (.int .i64 0), Is (.pointer (some ⟨ga, 4, none⟩)), Is (.string ByteArray.empty), Is (.pointer (some ⟨gb, 4, none⟩)), Is (.string ByteArray.empty), Is (.int .i64 0)] [] (fun _ => True) (fun _ _ => false) (by kernel_rfl) (by kernel_rfl) (by kernel_rfl) (by kernel_rfl) ⟨Is.stable _, Is.stable _, Is.stable _, Is.stable _, Is.stable _, Is.stable _, Is.stable _, Is.stable _, Is.stable _, Is.stable _, Is.stable _, Is.stable _, Is.stable _, Is.stable _, Is.stable _, trivial⟩ trivial (fun _ _ _ _ h => h) trivial ?_ ?_
 ·refine ⟨fun u w' d hf hR k1 k0 kM => ?_, fun u w' d hf hR k1 k0 kM => ?_, fun u w' d hf hR k1 k0 kM => ?_, fun u w' d hf hR k1 k0 kM => ?_, fun u w' d hf hR k1 k0 kM => ?_, fun u w' d hf hR k1 k0 kM => ?_, fun u w' d hf hR k1 k0 kM => ?_, fun u w' d hf hR k1 k0 kM => ?_, fun u w' d hf hR k1 k0 kM => ?_, fun u w' d hf hR k1 k0 kM => ?_, fun u w' d hf hR k1 k0 kM => ?_, fun u w' d hf hR k1 k0 kM => ?_, fun u w' d hf hR k1 k0 kM => ?_, fun u w' d hf hR k1 k0 kM => ?_, fun u w' d hf hR k1 k0 kM => ?_, trivial⟩
  all_goals simp only [List.take_succ_cons, List.take_zero, List.map_cons, List.map_nil, puts, Act.put, List.setIfInBounds_toArray, List.set_cons_zero, List.set_cons_succ, Nat.reduceAdd, Nat.zero_add]
  ·clear hR k1 k0 kM
   refine .inl ⟨by kernel_rfl, ?_⟩
   go_simp
   exact ⟨_, rfl, Fr.refl _ _, rfl, trivial⟩
  ·have h0 : u 0 = _ := hR 0 (by kernel_rfl)
   clear hR k1 k0 kM
   simp only [h0]
   refine .inl ⟨by kernel_rfl, ?_⟩
   have hc : w'.cell? ⟨ga, 2, none⟩ = some (.int .i64 0) := (Hga.out.fr hf (fun x => x)).cell 2
   go_simp
   exact ⟨_, rfl, Fr.refl _ _, rfl, trivial⟩
  ·clear hR k1 k0 kM
   refine .inl ⟨by kernel_rfl, ?_⟩
   go_simp
   exact ⟨_, rfl, Fr.refl _ _, rfl, trivial⟩
  ·have h2 : u 2 = _ := hR 2 (by kernel_rfl)
   clear hR k1 k0 kM
   simp only [h2]
   refine .inl ⟨by kernel_rfl, ?_⟩
   have hc : w'.cell? ⟨gb, 2, none⟩ = some (.int .i64 0) := (Hgb.out.fr hf (fun x => x)).cell 2
   go_simp
   exact ⟨_, rfl, Fr.refl _ _, rfl, trivial⟩
  ·have h1 : u 1 = _ := hR 1 (by kernel_rfl)
   have h3 : u 3 = _ := hR 3 (by kernel_rfl)
   clear hR k1 k0 kM
   simp only [h1, h3]
   refine .inl ⟨by kernel_rfl, ?_⟩
   go_simp
   refine (cmpInt_any 0 0 _).mono ?_
   rintro e w4 ⟨rfl, rfl⟩
   exact ⟨_, rfl, Fr.refl _ _, rfl, trivial⟩
  ·clear hR k1 k0 kM
   refine .inl ⟨by kernel_rfl, ?_⟩
   go_simp
   exact ⟨_, rfl, Fr.refl _ _, rfl, trivial⟩
  ·have h5 : u 5 = _ := hR 5 (by kernel_rfl)
   clear hR k1 k0 kM
   simp only [h5]
   refine .inl ⟨by kernel_rfl, ?_⟩
   have hc : w'.cell? ⟨ga, 3, none⟩ = some (.int .i64 0) := (Hga.out.fr hf (fun x => x)).cell 3
   go_simp
   exact ⟨_, rfl, Fr.refl _ _, rfl, trivial⟩
  ·clear hR k1 k0 kM
   refine .inl ⟨by kernel_rfl, ?_⟩
   go_simp
   exact ⟨_, rfl, Fr.refl _ _, rfl, trivial⟩
  ·have h7 : u 7 = _ := hR 7 (by kernel_rfl)
   clear hR k1 k0 kM
   simp only [h7]
   refine .inl ⟨by kernel_rfl, ?_⟩
   have hc : w'.cell? ⟨gb, 3, none⟩ = some (.int .i64 0) := (Hgb.out.fr hf (fun x => x)).cell 3
   go_simp
   exact ⟨_, rfl, Fr.refl _ _, rfl, trivial⟩
  ·have h6 : u 6 = _ := hR 6 (by kernel_rfl)
   have h8 : u 8 = _ := hR 8 (by kernel_rfl)
   clear hR k1 k0 kM
   simp only [h6, h8]
   refine .inl ⟨by kernel_rfl, ?_⟩
   go_simp
   refine (cmpInt_any 0 0 _).mono ?_
   rintro e w4 ⟨rfl, rfl⟩
   exact ⟨_, rfl, Fr.refl _ _, rfl, trivial⟩
  ·clear hR k1 k0 kM
   refine .inl ⟨by kernel_rfl, ?_⟩
   go_simp
   exact ⟨_, rfl, Fr.refl _ _, rfl, trivial⟩
  ·have h10 : u 10 = _ := hR 10 (by kernel_rfl)
   clear hR k1 k0 kM
   simp only [h10]
   refine .inl ⟨by kernel_rfl, ?_⟩
   have hc : w'.cell? ⟨ga, 4, none⟩ = some (.string ByteArray.empty) := (Hga.out.fr hf (fun x => x)).cell 4
   go_simp
   exact ⟨_, rfl, Fr.refl _ _, rfl, trivial⟩
  ·clear hR k1 k0 kM
   refine .inl ⟨by kernel_rfl, ?_⟩
   go_simp
   exact ⟨_, rfl, Fr.refl _ _, rfl, trivial⟩
  ·have h12 : u 12 = _ := hR 12 (by kernel_rfl)
   clear hR k1 k0 kM
   simp only [h12]
   refine .inl ⟨by kernel_rfl, ?_⟩
   have hc : w'.cell? ⟨gb, 4, none⟩ = some (.string ByteArray.empty) := (Hgb.out.fr hf (fun x => x)).cell 4
   go_simp
   exact ⟨_, rfl, Fr.refl _ _, rfl, trivial⟩
  ·have h11 : u 11 = _ := hR 11 (by kernel_rfl)
   have h13 : u 13 = _ := hR 13 (by kernel_rfl)
   clear hR k1 k0 kM
   simp only [h11, h13]
   refine .inl ⟨by kernel_rfl, ?_⟩
   go_simp
   refine (cmpStr_empty _).mono ?_
   rintro e w4 ⟨rfl, rfl⟩
   exact ⟨_, rfl, Fr.refl _ _, rfl, trivial⟩
 ·intro u w' hf hR kM
  have k4 : u 4 = _ := hR 4 (by omega)
  have k9 : u 9 = _ := hR 9 (by omega)
  have k14 : u 14 = _ := hR 14 (by omega)
  clear hR kM
  simp only [List.take_succ_cons, List.take_zero, List.map_cons, List.map_nil, puts, Act.put, List.setIfInBounds_toArray, List.set_cons_zero, List.set_cons_succ, List.drop_succ_cons, List.drop_zero, Nat.reduceAdd, Nat.zero_add, k4, k9, k14]
  have F3 := Lib.hid (F2.out.trans hf)
  clear hf k4 k9 k14
  go_wp2_with fail
  have NW := NewBlk.alloc w' 3 #[.int .i64 0, .int .i64 0, .int .i64 0]
  generalize w'.alloc (.cells #[.int .i64 0, .int .i64 0, .int .i64 0] 3) = w5 at *
  have F5 := Lib.hid (F3.out.trans NW.fr)
  have CO := Lib.hid (cmpOr_zero _ w5 NW.blk)
  clear NW
  generalize w'.heap.size = gs at *
  refine CO.out.mono ?_
  rintro e w6 ⟨rfl, rfl⟩
  go_wp2
  go_ret
  exact ⟨rfl, F5.out⟩
end Go.Proofs.YtpnchdgplpdefaaGreatDoor
