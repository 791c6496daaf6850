/- Steps of the proof of LawPipesLoseNothing: contracts of the functions that the law reaches, for every world that holds what each of them asks. -/
import Derived.Test.YtmpokappjogehaaGreatDoorQAI
import Derived.RangeFuncWrites
import Derived.RangeFuncBox
import Derived.LoopNIn
import Derived.LoopIn
import Derived.OwnWalkIn
import Derived.TacticsInMore
import Derived.RangeFuncNested
import Derived.RangeFuncBound
import Derived.RangeFuncLeaves
import Derived.Shelf.Abstract
import Derived.Shelf.RegionOpen
import Derived.Test.YtmpokappjogehaaGreatDoorQAD
import Derived.Laws.Strings
set_option linter.unusedVariables false
set_option linter.unusedSimpArgs false
namespace Go.Proofs.YtmpokappjogehaaGreatDoor
open Go.RowKit Go.Shelf

attribute [local go_sem] Oper.semAt_some

theorem RoundIn.anyDepth {F : Fence} (hd : F.depth = none) {m m' : Nat} {P : Program} {l : Nat} {f : FuncId} {tmps : Array Value} {assign body : Code} {w : World} {R : Ending → World → Prop}
    (h : RoundIn F m P l f tmps assign body w R) : RoundIn F m' P l f tmps assign body w R := ⟨h.1, fun c cs _ => h.2 c cs (fun d h => by rw [hd] at h; cases h)⟩
theorem YieldAt.anyDepth {F : Fence} (hd : F.depth = none) {m : Nat} (m' : Nat) {P : Program} {l : Nat} {args : Array Value} {W : World} {R : Ending → World → Prop} (h : YieldAt F m P l args W R) : YieldAt F m' P l args W R := by
  obtain ⟨fn, tmps, assign, body, hy, hR⟩ := h
  exact ⟨fn, tmps, assign, body, hy, RoundIn.anyDepth hd hR⟩

/-- The names and values of a tree in order. -/
def Tr.toL : Tr → List (NameV × ByteArray)
  | .leaf => []
  | .node l nm v r => l.toL ++ (nm, v) :: r.toL
theorem Tr.toL_length : ∀ t : Tr, t.toL.length = t.size
  | .leaf => rfl
  | .node l nm v r => by
    simp only [Tr.toL, Tr.size, List.length_append, List.length_cons, l.toL_length, r.toL_length]
    omega
/-- All blocks that hold nodes are as they were. -/
def KN (A B : World) : Prop := ∀ g cs, Blk A g 315 cs → Blk B g 315 cs
theorem KN.refl (A : World) : KN A A := fun _ _ h => h
theorem KN.trans {A B C : World} (h : KN A B) (k : KN B C) : KN A C := fun g cs hb => k g cs (h g cs hb)
theorem KN.fr {A B : World} {T : Nat → Prop} (h : Fr T A B) (hT : ∀ g cs, Blk A g 315 cs → ¬ T g) : KN A B := fun g cs hb => hb.fr h (hT g cs hb)
theorem KN.below {A B : World} (h : Below A.heap.size A B) : KN A B := fun g _ hb => (h.block g hb.lt).trans hb
theorem NodH.kn {w w' : World} : ∀ {a : Option Addr} {t : Tr}, NodH w a t → KN w w' → NodH w' a t
  | _, .leaf, h, _ => h
  | _, .node _ _ _ _, ⟨g, la, ra, e, h1, h2, hb⟩, hf => ⟨g, la, ra, e, h1.kn hf, h2.kn hf, hf g _ hb⟩
/-- A node that lies in memory. -/
structure Nd where
  g : Nat
  nm : NameV
  v : ByteArray
def NdAt (w : World) (x : Nd) : Prop := ∃ a b c d e, Blk w x.g 315 ([a, b] ++ x.nm.cells ++ [Value.string x.v, c, d, e]).toArray
theorem NdAt.kn {w w' : World} {x : Nd} (h : NdAt w x) (k : KN w w') : NdAt w' x := by
  obtain ⟨a, b, c, d, e, hb⟩ := h
  exact ⟨a, b, c, d, e, k _ _ hb⟩
theorem NdAt.mid {w : World} {x : Nd} (h : NdAt w x) : Mid w x.g x.nm x.v := by
  obtain ⟨a, b, c, d, e, hb⟩ := h
  exact Mid.of hb
abbrev NdW (w : World) := {x : Nd // NdAt w x}
def ndEnc {w : World} (x : NdW w) : Array Value := #[.pointer (some ⟨x.1.g, 0, none⟩)]
def ndV {w : World} (x : NdW w) : NameV × ByteArray := (x.1.nm, x.1.v)

theorem wpListIn_skipW {n : Nat} {P : Program} {ops : Array Oper} {Q : Exit → Act → World → Prop} {a : Act} {w : World} {rest : List Oper} {o : Oper} (hw : Region.wanted o (yielded ops a.tmps) = false)
    (h : wpListIn Fence.wide n P ops Q rest (a.put o.dst undef) w) : wpListIn Fence.wide n P ops Q (o :: rest) a w := by
  rw [wpListIn, if_neg (by rw [hw]; simp)]
  exact ⟨fun _ _ => trivial, h⟩
def Eached (w : World) (J Jx : List (NdW w) → World → Prop) (pre xs : List (NdW w)) (e : Ending) (W' : World) : Prop :=
  (e = .returned (.bool true) ∧ J (pre ++ xs) W' ∧ KN w W') ∨ (e = .returned (.bool false) ∧ ∃ q, q <+: xs ∧ Jx (pre ++ q) W')

/-- The nodes of a tree in order: where they lie. -/
inductive Ord (w : World) : Option Addr → Tr → List (NdW w) → Prop where
  | leaf : Ord w none .leaf []
  | node {l r : Tr} {nm : NameV} {v : ByteArray} {g : Nat} {la ra : Option Addr} {L R : List (NdW w)} (hl : Ord w la l L) (hr : Ord w ra r R)
      (hb : Blk w g 315 (nodeC la ra (.node l nm v r)).toArray) (x : NdW w) (hx : x.1 = ⟨g, nm, v⟩) : Ord w (some ⟨g, 0, none⟩) (.node l nm v r) (L ++ x :: R)
theorem Ord.of {w : World} : ∀ {a : Option Addr} {t : Tr}, NodH w a t → ∃ L, Ord w a t L
  | _, .leaf, h => by
    obtain rfl : _ = none := h
    exact ⟨[], .leaf⟩
  | _, .node l nm v r, ⟨g, la, ra, e, h1, h2, hb⟩ => by
    subst e
    obtain ⟨L, hL⟩ := Ord.of h1
    obtain ⟨R, hR⟩ := Ord.of h2
    exact ⟨_, .node hL hR hb ⟨⟨g, nm, v⟩, _, _, _, _, _, hb⟩ rfl⟩
theorem Ord.toL {w : World} {a : Option Addr} {t : Tr} {L : List (NdW w)} (h : Ord w a t L) : L.map ndV = t.toL := by
  induction h with
  | leaf => rfl
  | node _ _ _ x hx h1 h2 =>
    rw [List.map_append, List.map_cons, h1, h2, Tr.toL]
    simp only [ndV, hx]

end Go.Proofs.YtmpokappjogehaaGreatDoor

namespace Go.Proofs.YtmpokappjogehaaGreatDoor
open Go.RowKit Go.Shelf

attribute [local go_sem] Oper.semAt_some

theorem wpAny_st {P : Program} {Q : Exit → Act → World → Prop} {a : Act} {w : World} {l : List Oper} (n : Nat) (T : Nat → Prop) (RL : List (Value → World → Prop)) (ws : List (Nat × (World → Prop))) (M0 : World → Prop) (B : Nat → Nat → Bool) (hg : growS l.toArray n = true)
    (hB : beforeB l.toArray n B = true) (hch : (chainP B (ws.map (·.1)) && (ws.map (·.1)).all (fun p => decide (p < n))) = true)
    (hst : StableL T w RL) (hsw : StableW T w ws) (hs0 : ∀ w' w'', Fr T w w' → Fr Nothing w' w'' → M0 w' → M0 w'') (h0 : M0 w.drew)
    (hh : headSt P l.toArray Q T w (fun u => puts ((l.take n).map (·.dst)) 0 u a) (factOf RL) ws M0 B n 0 (l.take n))
    (ht : ∀ u w', Fr T w w' → (∀ j, j < n → factOf RL j (u j) w') → lastW ws M0 w' → wpList P l.toArray Q (l.drop n) (puts ((l.take n).map (·.dst)) 0 u a) w') : wpAny P .any l.toArray Q l.toArray.size (Array.replicate l.toArray.size false) a w.drew := by
  have ok := GrowS.of hg
  obtain ⟨u0, hu0⟩ := puts_start ((l.take n).map (·.dst)) 0 a
  have inv0 : HeadInv .any l.toArray n (Array.replicate l.toArray.size false) :=
    ⟨by simp, fun j oj _ hl => (by rw [getD_replicate_false] at hl; cases hl), fun t _ ht => getD_in (by simpa using ht) (getD_replicate_false _ _)⟩
  have hc : countU (fun j => !(Array.replicate l.toArray.size false).getD j false) n = n := by
    have h : ∀ m, countU (fun j => !(Array.replicate l.toArray.size false).getD j false) m = m := by
      intro m
      induction m with
      | zero => rfl
      | succ m ih => rw [countU, ih, getD_replicate_false]; rfl
    exact h n
  have := st_go (P := P) (Q := Q) (a := a) ok hB hch hst hsw hs0 (by simpa using hh) (by simpa using ht) n _ u0 w.drew inv0 hc ((Fr.refl _ _).drew) (by rw [stage_none ws M0 _ (fun x _ => getD_replicate_false _ _)]; exact h0) (fun j hj hl => by rw [getD_replicate_false] at hl; cases hl)
  rw [show (l.toArray.toList.take n).map (·.dst) = (l.take n).map (·.dst) by simp, hu0, show n + (l.toArray.size - n) = l.toArray.size by have := ok.le; omega] at this
  exact this
theorem wpIn_round_st {r m : Nat} {P : Program} {id : Nat} {Q : Exit → Act → World → Prop} {a : Act} {w : World} {l : List Oper} (n : Nat) (T : Nat → Prop) (RL : List (Value → World → Prop)) (ws : List (Nat × (World → Prop))) (M0 : World → Prop) (B : Nat → Nat → Bool) (hd : (l.all noDefer) = true) (hm : P.follows .mixedOrders = true) (hg : growS l.toArray n = true)
    (hB : beforeB l.toArray n B = true) (hch : (chainP B (ws.map (·.1)) && (ws.map (·.1)).all (fun p => decide (p < n))) = true)
    (hst : StableL T w RL) (hsw : StableW T w ws) (hs0 : ∀ w' w'', Fr T w w' → Fr Nothing w' w'' → M0 w' → M0 w'') (h0 : M0 w.drew)
    (hh : headSt P l.toArray (fun e a w => Q e a w ∧ e = .normal) T w (fun u => puts ((l.take n).map (·.dst)) 0 u a) (factOf RL) ws M0 B n 0 (l.take n))
    (ht : ∀ u w', Fr T w w' → (∀ j, j < n → factOf RL j (u j) w') → lastW ws M0 w' → wpList P l.toArray (fun e a w => Q e a w ∧ e = .normal) (l.drop n) (puts ((l.take n).map (·.dst)) 0 u a) w') : (Code.region id l.toArray true).wpIn (Fence.wide.inRound r) m P Q a w :=
  wpIn_region_any hm (wpAnyIn_round (fun i o ho => List.all_eq_true.1 hd o (List.mem_of_getElem? (by simpa using ho))) _ _ _ _ (wpAny_st n T RL ws M0 B hg hB hch hst hsw hs0 h0 hh ht))

theorem wpList_store1 {P : Program} {ops : Array Oper} {rest : List Oper} {o : Oper} {a : Act} {w : World} {Q : Exit → Act → World → Prop} (hgd : o.guard = none) (ty : TypeId) (x y : Operand) (ho : o.op = .store ty x y)
    (g : Nat) (v : Value) (hx : a.eval x = .pointer (some ⟨g, 0, none⟩)) (hy : a.eval y = v) (h1 : v.oneCell' = true)
    (t : TypeId) (old : Value) (hg : Blk w g t #[old]) (hi : (P.info? ty).map (·.size) = some 1)
    (h : ∀ w', Blk w' g t #[v] → Fr (fun k => k = g) w w' → wpList P ops Q rest (a.put o.dst undef) w') : wpList P ops Q (o :: rest) a w := by
  subst hy
  exact wpList_store_one hgd ty x y ho g hx h1 t old hg hi (h _ (heap_setRow_same hg) ((Fr.refl (fun k => k = g) w).setRow (fun _ => rfl) _))
theorem own_block {w : World} {base : Nat} {e : TypeId} {size n k : Nat} {v : Value} {xs : List Value} (h : w.ownsRow base e size v n xs) (hk : v.ownBlock = some k) : ∃ c f, w.heap[k]? = some (.cells c e f) := by
  rcases h.2 with ⟨rfl, _⟩ | ⟨g', cap', cur, rfl, _, hh, _⟩
  · simp [Value.ownBlock] at hk
  · simp [Value.ownBlock] at hk
    subst hk
    exact ⟨_, _, hh⟩
def opLoads (t : TypeId) : Op → Bool
  | .load t' _ => t == t'
  | _ => false
theorem wpListIn_round1 {r n : Nat} {P : Program} {ops : Array Oper} {Q : Exit → Act → World → Prop} {o : Oper} {l : List Oper} {a : Act} {w : World} (f : Op → Bool) (_hf : f o.op = true) (hd : ((o :: l).all noDefer) = true) (h : wpList P ops (fun e a w => Q e a w ∧ e = .normal) (o :: l) a w) : wpListIn (Fence.wide.inRound r) n P ops Q (o :: l) a w :=
  wpListIn_round hd h

def Sz (w : World) (g : Nat) : Prop := w.heap.size ≤ g
/-- Between two rounds: a row of the call's own, in a box. w0: before the call; w3: where the loop begins. -/
structure RowI {α : Type} (w0 w3 : World) (g2 : Nat) (bt e : TypeId) (sz : Nat) (cnt : List α → Nat) (cells : List α → List Value) (pre : List α) (W : World) : Prop where
  fr : Fr Nothing w0 W
  kn : KN w3 W
  row : ∃ v, Blk W g2 bt #[v] ∧ W.ownsRow 0 e sz v (cnt pre) (cells pre) ∧ ∀ k, v.ownBlock = some k → w0.heap.size ≤ k ∧ k ≠ g2
theorem RowI.ownFrom {α : Type} {w0 w3 : World} {g2 : Nat} {bt e : TypeId} {sz B : Nat} {cnt : List α → Nat} {cells : List α → List Value} (h2 : g2 < B) (hB : w0.heap.size ≤ B) : OwnFrom B (RowI w0 w3 g2 bt e sz cnt cells) := by
  intro pre X Y row h hg hr
  have hrow : ∀ k, k < B → some k ≠ row := fun k hk e => by have := (hr k e.symm).1; omega
  have hf : Fr (fun k => some k = row) X Y := Fr.grown hg
  obtain ⟨v, b11, hown, hl⟩ := h.row
  refine ⟨h.fr.then_ hf (fun i hi e => absurd e (hrow i (by omega))), h.kn.trans (KN.fr hf (fun g cs hb e => ?_)), ⟨v, b11.fr hf (fun e => hrow _ h2 e), own_fr hown hf (fun k hk e => ?_), hl⟩⟩
  · obtain ⟨_, o, ho, hc⟩ := hr g e.symm
    unfold Blk at hb
    rw [hb] at ho
    cases ho
    simp [Obj.isCells] at hc
  · obtain ⟨_, o, ho, hc⟩ := hr k e.symm
    obtain ⟨c, f, ho'⟩ := own_block hown hk
    rw [ho'] at ho
    cases ho
    simp [Obj.isCells] at hc
theorem RowI.same {α : Type} {w0 w3 W X : World} {g2 : Nat} {bt e : TypeId} {sz : Nat} {cnt : List α → Nat} {cells : List α → List Value} {pre pre' : List α} (h : RowI w0 w3 g2 bt e sz cnt cells pre W) (hX : Fr Nothing W X) (h1 : cnt pre' = cnt pre) (h2 : cells pre' = cells pre) : RowI w0 w3 g2 bt e sz cnt cells pre' X := by
  obtain ⟨v, b11, hown, hl⟩ := h.row
  refine ⟨h.fr.trans hX, h.kn.trans (KN.fr hX (fun _ _ _ x => x)), ⟨v, b11.fr hX (fun x => x), ?_, hl⟩⟩
  rw [h1, h2]
  exact own_fr hown hX (fun _ _ x => x)
theorem RowI.step {α : Type} {w0 w3 W X X2 X3 : World} {g2 B : Nat} {bt e : TypeId} {sz : Nat} {cnt : List α → Nat} {cells : List α → List Value} {pre pre' : List α} {v v2 : Value}
    (hI : RowI w0 w3 g2 bt e sz cnt cells pre W) (_h2 : g2 < B) (_hB : w0.heap.size ≤ B) (hg2 : w0.heap.size ≤ g2) (hbt : bt ≠ 315) (he : e ≠ 315) (hb : Blk W g2 bt #[v])
    (hown : W.ownsRow 0 e sz v (cnt pre) (cells pre)) (hlies : ∀ k, v.ownBlock = some k → w0.heap.size ≤ k ∧ k ≠ g2)
    (hX : Fr Nothing W X) (hG : Grew e sz X v X2 v2 (cnt pre') (cells pre')) (f3 : Fr (fun k => k = g2) X2 X3) (b3 : Blk X3 g2 bt #[v2]) :
    KeepsFrom B W X3 ∧ KN W X3 ∧ RowI w0 w3 g2 bt e sz cnt cells pre' X3 := by
  have s1 : w0.heap.size ≤ W.heap.size := hI.fr.size
  have s2 : W.heap.size ≤ X.heap.size := hX.size
  have s3 : g2 < W.heap.size := hb.lt
  have hl2 : ∀ k, v2.ownBlock = some k → w0.heap.size ≤ k ∧ k ≠ g2 := fun k hk => by
    rcases hG.lies k hk with h | h
    · exact hlies k h
    · constructor <;> omega
  have F : Fr (fun k => k = g2 ∨ v.ownBlock = some k) W X3 := by
    have A1 : Fr (fun k => k = g2 ∨ v.ownBlock = some k) W X2 := (hX.weak).trans (hG.fr.mono (fun i _ h => .inr h))
    exact A1.trans (f3.mono (fun i _ h => .inl h))
  have K : KN W X3 := KN.fr F (fun g cs hn h => by
    unfold Blk at hn hb
    rcases h with rfl | h
    · rw [hb] at hn
      cases hn
      exact hbt rfl
    · obtain ⟨c, f, ho⟩ := own_block hown h
      rw [ho] at hn
      cases hn
      exact he rfl)
  refine ⟨⟨F.size, fun k o _ ho hc => ?_⟩, K, ?_, hI.kn.trans K, ?_⟩
  · refine (F.block k (Array.getElem?_eq_some_iff.1 ho).1 ?_).trans ho
    rintro (rfl | h)
    · omega
    · obtain ⟨c, f, ho'⟩ := own_block hown h
      rw [ho] at ho'
      cases ho'
      simp [Obj.isCells] at hc
  · refine hI.fr.then_ F (fun i hi h => ?_)
    rcases h with h | h
    · omega
    · have := (hlies i h).1
      omega
  · exact ⟨v2, b3, own_fr hG.own f3 (fun k hk e => (hl2 k hk).2 e), hl2⟩
theorem KN.put (W : World) (l : Nat) (o o' : Obj) (h : W.heap[l]? = some o) (hc : o.isCells = false) : KN W (W.putObj l o') :=
  KN.fr (Fr.grown (grownBy_putObj' W l o')) (fun g cs hb e => by
    have e' : g = l := by simpa using e
    subst e'
    unfold Blk at hb
    rw [hb] at h
    cases h
    simp [Obj.isCells] at hc)
def ptrN (x : Nd) : Value := .pointer (some ⟨x.g, 0, none⟩)
theorem infoNdP : (Tryz.prog.info? 105).map (fun i => (i.zero, i.size, i.bytes)) = some (some (.pointer none), 1, 8) := by kernel_rfl
theorem infoNmP : (Tryz.prog.info? 144).map (fun i => (i.zero, i.size, i.bytes)) = some (some nameZ, 5, 56) := by kernel_rfl
theorem infoNm3 : ∃ i, Tryz.prog.info? 144 = some i ∧ i.zero = some nameZ ∧ i.size = 5 ∧ i.bytes = 56 := info_parts infoNmP
theorem foldl5 (cs b : Array Value) (hc : cs.size = 5) (hb : b.size = 5) : Instr.fill (fun i => some (i * 5, 5)) b [(0, .agg cs)] = some cs := by
  have hf := fold_arr cs b 0 (by omega)
  simp only [Instr.fill, Value.cells, hc, hb, Nat.zero_mul, Nat.zero_add, ne_eq, not_true_eq_false, decide_false, Bool.false_or, gt_iff_lt, Nat.lt_irrefl, Bool.false_eq_true, if_false]
  simp only [Nat.zero_add, List.take_zero, List.nil_append, hc] at hf
  rw [List.drop_of_length_le (by simp [hb]), List.append_nil] at hf
  rw [hf]
theorem rd_new1 (w : World) (n : NameV) : Rd (w.alloc (.cells n.cells.toArray 144)) (fun _ => True) 5 (some ⟨w.heap.size, 0, none⟩) 1 n.cells := by
  refine ⟨rfl, fun _ => ⟨_, rfl, trivial, fun j x hx => ?_⟩⟩
  rw [Addr.add_mid, Nat.zero_add, (Blk.new w 144 n.cells.toArray).cell, List.getElem?_toArray]
  exact hx

end Go.Proofs.YtmpokappjogehaaGreatDoor

namespace Go.Proofs.YtmpokappjogehaaGreatDoor
open Go.RowKit Go.Shelf

attribute [local go_sem] Oper.semAt_some
def ptrsW {w : World} (ys : List (NdW w)) : List Value := ys.map (fun y => ptrN y.1)
/-- The call returns the nodes of a tree in order. -/
def Listed (w : World) (t : Tr) (r : Ending) (w' : World) : Prop := ∃ v, ∃ L : List Nd, r = .returned v ∧ Grew 105 1 w (.slice none 0 0) w' v t.size (L.map ptrN) ∧ L.map (fun x : Nd => (x.nm, x.v)) = t.toL ∧ ∀ x ∈ L, NdAt w' x

end Go.Proofs.YtmpokappjogehaaGreatDoor

namespace Go.Proofs.YtmpokappjogehaaGreatDoor
open Go.RowKit

/-! ### Comparisons -/
structure IsCmp {α : Type} (c : α → α → Int) : Prop where
  eq : ∀ a b, c a b = 0 → a = b
  refl : ∀ a, c a a = 0
  anti : ∀ a b, c b a = - c a b
  trans : ∀ a b d, c a b < 0 → c b d < 0 → c a d < 0
theorem IsCmp.lt_of_le {α : Type} {c : α → α → Int} (h : IsCmp c) {a b d : α} (h1 : c a b ≤ 0) (h2 : c b d < 0) : c a d < 0 := by
  by_cases e : c a b = 0
  · rw [h.eq a b e]; exact h2
  · exact h.trans a b d (by omega) h2
/-- One order after another. -/
def cThen (x y : Int) : Int := if x = 0 then y else x
theorem IsCmp.lex {α β : Type} {c : α → α → Int} {d : β → β → Int} (h : IsCmp c) (k : IsCmp d) : IsCmp (fun (a b : α × β) => cThen (c a.1 b.1) (d a.2 b.2)) where
  eq a b e := by
    unfold cThen at e
    split at e
    · rename_i h1
      exact Prod.ext (h.eq _ _ h1) (k.eq _ _ e)
    · contradiction
  refl _ := by simp [cThen, h.refl, k.refl]
  anti a b := by
    have := h.anti a.1 b.1
    have := k.anti a.2 b.2
    unfold cThen
    split <;> split <;> omega
  trans a b e h1 h2 := by
    have ha := h.anti
    by_cases e1 : c a.1 b.1 = 0
    · by_cases e2 : c b.1 e.1 = 0
      · have e3 : c a.1 e.1 = 0 := by rw [h.eq _ _ e1, h.eq _ _ e2]; exact h.refl _
        simp only [cThen, e1, e2, e3, if_true] at *
        exact k.trans _ _ _ h1 h2
      · simp only [cThen, e1, e2, if_true, if_false] at h1 h2
        have e3 : c a.1 e.1 = c b.1 e.1 := by rw [h.eq _ _ e1]
        simp only [cThen, e3, e2, if_false]
        exact h2
    · by_cases e2 : c b.1 e.1 = 0
      · simp only [cThen, e1, e2, if_true, if_false] at h1 h2
        have e3 : c a.1 e.1 = c a.1 b.1 := by rw [h.eq _ _ e2]
        simp only [cThen, e3, e1, if_false]
        exact h1
      · simp only [cThen, e1, e2, if_false] at h1 h2
        have e3 := h.trans _ _ _ h1 h2
        have e4 : c a.1 e.1 ≠ 0 := by omega
        simp only [cThen, e4, if_false]
        exact e3
theorem IsCmp.pull {α β : Type} {c : β → β → Int} (h : IsCmp c) (f : α → β) (hf : ∀ a b, f a = f b → a = b) : IsCmp (fun a b => c (f a) (f b)) where
  eq _ _ e := hf _ _ (h.eq _ _ e)
  refl _ := h.refl _
  anti _ _ := h.anti _ _
  trans _ _ _ := h.trans _ _ _
def cmpZ (a b : Int) : Int := if a < b then -1 else if b < a then 1 else 0
theorem cmpZ_is : IsCmp cmpZ where
  eq a b e := by unfold cmpZ at e; split at e <;> (try split at e) <;> omega
  refl _ := by unfold cmpZ; simp
  anti a b := by unfold cmpZ; split <;> split <;> (try split) <;> omega
  trans a b d h1 h2 := by unfold cmpZ at *; split at h1 <;> (try split at h1) <;> split at h2 <;> (try split at h2) <;> (try split) <;> omega
def cmpL {α : Type} (c : α → α → Int) : List α → List α → Int
  | [], [] => 0
  | [], _ :: _ => -1
  | _ :: _, [] => 1
  | x :: xs, y :: ys => cThen (c x y) (cmpL c xs ys)
theorem cmpL_is {α : Type} {c : α → α → Int} (h : IsCmp c) : IsCmp (cmpL c) where
  eq := by
    intro a
    induction a with
    | nil => intro b e; cases b <;> simp [cmpL] at e ⊢
    | cons x xs ih =>
      intro b e
      cases b with
      | nil => simp [cmpL] at e
      | cons y ys =>
        simp only [cmpL, cThen] at e
        split at e
        · rename_i h1
          rw [h.eq _ _ h1, ih _ e]
        · contradiction
  refl := by
    intro a
    induction a with
    | nil => rfl
    | cons x xs ih => simp [cmpL, cThen, h.refl, ih]
  anti := by
    intro a
    induction a with
    | nil => intro b; cases b <;> simp [cmpL]
    | cons x xs ih =>
      intro b
      cases b with
      | nil => simp [cmpL]
      | cons y ys =>
        have := h.anti x y
        have := ih ys
        simp only [cmpL, cThen]
        split <;> split <;> omega
  trans := by
    intro a
    induction a with
    | nil =>
      intro b d h1 h2
      cases d with
      | nil => cases b <;> simp [cmpL] at h1 h2
      | cons z zs => simp [cmpL]
    | cons x xs ih =>
      intro b d h1 h2
      cases b with
      | nil => simp [cmpL] at h1
      | cons y ys =>
        cases d with
        | nil => simp [cmpL] at h2
        | cons z zs =>
          simp only [cmpL] at *
          by_cases e1 : c x y = 0
          · by_cases e2 : c y z = 0
            · have e3 : c x z = 0 := by rw [h.eq _ _ e1, h.eq _ _ e2]; exact h.refl _
              simp only [cThen, e1, e2, e3, if_true] at *
              exact ih _ _ h1 h2
            · simp only [cThen, e1, e2, if_true, if_false] at h1 h2
              have e3 : c x z = c y z := by rw [h.eq _ _ e1]
              simp only [cThen, e3, e2, if_false]
              exact h2
          · by_cases e2 : c y z = 0
            · simp only [cThen, e1, e2, if_true, if_false] at h1 h2
              have e3 : c x z = c x y := by rw [h.eq _ _ e2]
              simp only [cThen, e3, e1, if_false]
              exact h1
            · simp only [cThen, e1, e2, if_false] at h1 h2
              have e3 := h.trans _ _ _ h1 h2
              have e4 : c x z ≠ 0 := by omega
              simp only [cThen, e4, if_false]
              exact e3
/-- Bytes. -/
def cmpU (a b : UInt8) : Int := cmpZ a.toNat b.toNat
theorem cmpU_is : IsCmp cmpU := cmpZ_is.pull (fun u : UInt8 => (u.toNat : Int)) (fun a b h => UInt8.toNat_inj.1 (by have h' : (a.toNat : Int) = b.toNat := h; omega))
def cmpB (a b : ByteArray) : Int := cmpL cmpU a.toList b.toList
theorem toList_inj {a b : ByteArray} (h : a.toList = b.toList) : a = b := by
  rw [ByteArray.toList_eq, ByteArray.toList_eq] at h
  cases a; cases b
  simp only [ByteArray.mk.injEq]
  exact Array.toList_inj.1 h
theorem cmpB_is : IsCmp cmpB := (cmpL_is cmpU_is).pull ByteArray.toList (fun _ _ h => toList_inj h)

theorem bytesLess_cmp : ∀ (x y : List UInt8), Op.bytesLess x y = decide (cmpL cmpU x y < 0)
  | [], [] => by simp [Op.bytesLess, cmpL]
  | _ :: _, [] => by simp [Op.bytesLess, cmpL]
  | [], _ :: _ => by simp [Op.bytesLess, cmpL]
  | a :: x, b :: y => by
    rw [Op.bytesLess, bytesLess_cmp x y]
    simp only [cmpL, cThen, cmpU, cmpZ]
    by_cases h1 : a < b
    · have h2 : (a.toNat : Int) < b.toNat := by have := UInt8.lt_iff_toNat_lt.1 h1; omega
      simp [h1, h2]
    · by_cases h3 : a = b
      · subst h3
        simp
      · have h4 : ¬ (a.toNat : Int) < b.toNat := by
          intro h
          exact h1 (UInt8.lt_iff_toNat_lt.2 (by omega))
        have h5 : (b.toNat : Int) < a.toNat := by
          have : a.toNat ≠ b.toNat := fun h => h3 (UInt8.toNat_inj.1 h)
          omega
        simp [h1, h3, h4, h5]
theorem cmpB_less (a b : ByteArray) : cmpB a b = if Op.bytesLess a.toList b.toList = true then -1 else if a = b then 0 else 1 := by
  have hv : ∀ (x y : List UInt8), cmpL cmpU x y = -1 ∨ cmpL cmpU x y = 0 ∨ cmpL cmpU x y = 1 := by
    intro x
    induction x with
    | nil => intro y; cases y <;> simp [cmpL]
    | cons p x ih =>
      intro y
      cases y with
      | nil => simp [cmpL]
      | cons q y =>
        have := ih y
        simp only [cmpL, cThen, cmpU, cmpZ]
        split <;> (try split) <;> (try split) <;> omega
  rw [bytesLess_cmp]
  have h := hv a.toList b.toList
  unfold cmpB
  by_cases e : a = b
  · subst e
    rw [(cmpL_is cmpU_is).refl]
    simp
  · have hn : cmpL cmpU a.toList b.toList ≠ 0 := fun h0 => e (toList_inj ((cmpL_is cmpU_is).eq _ _ h0))
    simp only [e, if_false]
    by_cases h1 : cmpL cmpU a.toList b.toList < 0
    · simp [h1]; omega
    · simp [h1]; omega

/-! ### The ordinals of a name of a process -/
def isD (b : UInt8) : Bool := 48 ≤ b.toNat && b.toNat ≤ 57
def runD : Nat → List UInt8 → List UInt8
  | 0, _ => []
  | _ + 1, [] => []
  | n + 1, b :: l => if isD b then b :: runD n l else []
def numD (ds : List UInt8) : Nat := ds.foldl (fun n b => n * 10 + (b.toNat - 48)) 0
structure Part where
  ord : Nat
  at_ : Nat
  e : Nat
def firstP (count at_ : Nat) (l : List UInt8) : Part × Nat :=
  let ds := runD 7 l
  if count = 8 then (⟨0, at_, 9⟩, at_) else if l = [] then (⟨0, at_, 4⟩, at_) else if ds = [] then (⟨0, at_, 6⟩, at_) else if l[0]? = some 48 then (⟨0, at_, 3⟩, at_)
  else if 6 < ds.length then (⟨0, at_, 2⟩, at_) else (⟨numD ds, at_, 0⟩, at_ + ds.length)
/-- What is yielded: n ordinals at most. -/
def partsR : Nat → Nat → List UInt8 → List Part
  | 0, at_, _ => [⟨0, at_, 9⟩]
  | n + 1, at_, l =>
    let p := (firstP (7 - n) at_ l).1
    if p.e ≠ 0 then [p] else
      let k := (runD 7 l).length
      if l.length ≤ k then [p] else if l[k]? ≠ some 46 then [p, ⟨0, at_ + k, 6⟩] else p :: partsR n (at_ + k + 1) (l.drop (k + 1))
def partsL (s : ByteArray) : List Part := if s.size = 0 then [] else partsR 8 0 s.toList
def validO (s : ByteArray) : Bool := (partsL s).all (fun p => p.e == 0)
def ordsO (s : ByteArray) : List Int := (partsL s).map (fun p => (p.ord : Int))

theorem runD_length : ∀ (n : Nat) (l : List UInt8), (runD n l).length ≤ n ∧ (runD n l).length ≤ l.length
  | 0, l => by simp [runD]
  | n + 1, [] => by simp [runD]
  | n + 1, b :: l => by
    have := runD_length n l
    rw [runD]
    split <;> simp <;> omega
theorem runD_take : ∀ (n : Nat) (l : List UInt8), runD n l = l.take (runD n l).length
  | 0, l => by simp [runD]
  | n + 1, [] => by simp [runD]
  | n + 1, b :: l => by
    rw [runD]
    split
    · rw [List.length_cons, List.take_succ_cons, ← runD_take n l]
    · simp
theorem runD_all : ∀ (n : Nat) (l : List UInt8), ∀ b ∈ runD n l, isD b = true
  | 0, l => by simp [runD]
  | n + 1, [] => by simp [runD]
  | n + 1, b :: l => by
    intro x hx
    rw [runD] at hx
    split at hx
    · rename_i h
      rcases List.mem_cons.1 hx with rfl | h2
      · exact h
      · exact runD_all n l x h2
    · simp at hx
theorem runD_step : ∀ (n : Nat) (l : List UInt8) (j : Nat), j ≤ (runD n l).length → (j < (runD n l).length ↔ j < n ∧ ∃ b, l[j]? = some b ∧ isD b = true)
  | 0, l, j, h => by simp [runD]
  | n + 1, [], j, h => by simp [runD]
  | n + 1, b :: l, 0, h => by
    rw [runD]
    by_cases hb : isD b = true
    · simp [hb]
    · simp [hb]
  | n + 1, b :: l, j + 1, h => by
    rw [runD] at h ⊢
    by_cases hb : isD b = true
    · simp only [hb, if_true, List.length_cons] at h ⊢
      have := runD_step n l j (by omega)
      simp only [List.getElem?_cons_succ]
      rw [show (j + 1 < (runD n l).length + 1) ↔ (j < (runD n l).length) by omega, show (j + 1 < n + 1) ↔ (j < n) by omega]
      exact this
    · simp [hb] at h
theorem numD_snoc (ds : List UInt8) (b : UInt8) : numD (ds ++ [b]) = numD ds * 10 + (b.toNat - 48) := by simp [numD]
theorem numD_lt : ∀ (n : Nat) (ds : List UInt8), ds.length = n → (∀ b ∈ ds, isD b = true) → numD ds < 10 ^ n := by
  intro n
  induction n with
  | zero =>
    intro ds h _
    rw [List.eq_nil_of_length_eq_zero h]
    decide
  | succ n ih =>
    intro ds h hd
    obtain ⟨init, b, rfl⟩ : ∃ init b, ds = init ++ [b] := by
      rcases List.eq_nil_or_concat ds with rfl | ⟨i, b, rfl⟩
      · simp at h
      · exact ⟨i, b, by simp⟩
    rw [numD_snoc]
    have h1 := ih init (by simpa using h) (fun x hx => hd x (by simp [hx]))
    have h2 := hd b (by simp)
    simp only [isD, Bool.and_eq_true, decide_eq_true_eq] at h2
    rw [Nat.pow_succ]
    omega
end Go.Proofs.YtmpokappjogehaaGreatDoor
