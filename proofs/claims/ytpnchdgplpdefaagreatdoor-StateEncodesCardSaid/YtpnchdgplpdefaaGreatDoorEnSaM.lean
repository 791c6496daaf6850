/- State: the rows that a state's iterator fills: list, Names, Kind (written by genSaN.py). -/
import Derived.Test.YtpnchdgplpdefaaGreatDoorEnSaH
import Derived.RangeFuncWrites
import Derived.RangeFuncBox
import Derived.LoopNIn
import Derived.LoopIn
import Derived.OwnWalkIn
import Derived.TacticsInMore
import Derived.RangeFuncNested
import Derived.RangeFuncBound
import Derived.RangeFuncLeaves
import Derived.Shelf.Abstract
import Derived.Shelf.RegionOpen
namespace Go.Proofs.YtpnchdgplpdefaaGreatDoor
open Go.RowKit Go.Shelf
attribute [local go_sem] Oper.semAt_some
theorem RoundIn.anyDepth {F : Fence} (hd : F.depth = none) {m m' : Nat} {P : Program} {l : Nat} {f : FuncId} {tmps : Array Value} {assign body : Code} {w : World} {R : Ending → World → Prop}
  (h : RoundIn F m P l f tmps assign body w R) : RoundIn F m' P l f tmps assign body w R := ⟨h.1, fun c cs _ => h.2 c cs (fun d h => by rw [hd] at h; cases h)⟩
theorem YieldAt.anyDepth {F : Fence} (hd : F.depth = none) {m : Nat} (m' : Nat) {P : Program} {l : Nat} {args : Array Value} {W : World} {R : Ending → World → Prop} (h : YieldAt F m P l args W R) : YieldAt F m' P l args W R := by
 obtain ⟨fn, tmps, assign, body, hy, hR⟩ := h
 exact ⟨fn, tmps, assign, body, hy, RoundIn.anyDepth hd hR⟩
def Tr.toL : Tr → List (NameV × ByteArray)
 | .leaf => []
 | .node l nm v r => l.toL ++ (nm, v) :: r.toL
theorem Tr.toL_length : ∀ t : Tr, t.toL.length = t.size
 | .leaf => rfl
 | .node l nm v r => by
  simp only [Tr.toL, Tr.size, List.length_append, List.length_cons, l.toL_length, r.toL_length]
  omega
def KN (A B : World) : Prop := ∀ g cs, Blk A g 69 cs → Blk B g 69 cs
theorem KN.refl (A : World) : KN A A := fun _ _ h => h
theorem KN.trans {A B C : World} (h : KN A B) (k : KN B C) : KN A C := fun g cs hb => k g cs (h g cs hb)
theorem KN.fr {A B : World} {T : Nat → Prop} (h : Fr T A B) (hT : ∀ g cs, Blk A g 69 cs → ¬ T g) : KN A B := fun g cs hb => hb.fr h (hT g cs hb)
theorem KN.below {A B : World} (h : Below A.heap.size A B) : KN A B := fun g _ hb => (h.block g hb.lt).trans hb
theorem NodH.kn {w w' : World} : ∀ {a : Option Addr} {t : Tr}, NodH w a t → KN w w' → NodH w' a t
 | _, .leaf, h, _ => h
 | _, .node _ _ _ _, ⟨g, la, ra, e, h1, h2, hb⟩, hf => ⟨g, la, ra, e, h1.kn hf, h2.kn hf, hf g _ hb⟩
structure Nd where
 g : Nat
 nm : NameV
 v : ByteArray
def NdAt (w : World) (x : Nd) : Prop := ∃ a b c d e, Blk w x.g 69 ([a, b] ++ x.nm.cells ++ [Value.string x.v, c, d, e]).toArray
theorem NdAt.kn {w w' : World} {x : Nd} (h : NdAt w x) (k : KN w w') : NdAt w' x := by
 obtain ⟨a, b, c, d, e, hb⟩ := h
 exact ⟨a, b, c, d, e, k _ _ hb⟩
theorem NdAt.mid {w : World} {x : Nd} (h : NdAt w x) : Mid w x.g x.nm x.v := by
 obtain ⟨a, b, c, d, e, hb⟩ := h
 exact Mid.of hb
abbrev NdW (w : World) := {x : Nd // NdAt w x}
def ndEnc {w : World} (x : NdW w) : Array Value := #[.pointer (some ⟨x.1.g, 0, none⟩)]
def ndV {w : World} (x : NdW w) : NameV × ByteArray := (x.1.nm, x.1.v)
theorem wpListIn_skipW {n : Nat} {P : Program} {ops : Array Oper} {Q : Exit → Act → World → Prop} {a : Act} {w : World} {rest : List Oper} {o : Oper} (hw : Region.wanted o (yielded ops a.tmps) = false)
  (h : wpListIn Fence.wide n P ops Q rest (a.put o.dst undef) w) : wpListIn Fence.wide n P ops Q (o :: rest) a w := by
 rw [wpListIn, if_neg (by rw [hw]; simp)]
 exact ⟨fun _ _ => trivial, h⟩
def Eached (w : World) (J Jx : List (NdW w) → World → Prop) (pre xs : List (NdW w)) (e : Ending) (W' : World) : Prop :=
 (e = .returned (.bool true) ∧ J (pre ++ xs) W' ∧ KN w W') ∨ (e = .returned (.bool false) ∧ ∃ q, q <+: xs ∧ Jx (pre ++ q) W')
inductive Ord (w : World) : Option Addr → Tr → List (NdW w) → Prop where
 | leaf : Ord w none .leaf []
 | node {l r : Tr} {nm : NameV} {v : ByteArray} {g : Nat} {la ra : Option Addr} {L R : List (NdW w)} (hl : Ord w la l L) (hr : Ord w ra r R)
   (hb : Blk w g 69 (nodeC la ra (.node l nm v r)).toArray) (x : NdW w) (hx : x.1 = ⟨g, nm, v⟩) : Ord w (some ⟨g, 0, none⟩) (.node l nm v r) (L ++ x :: R)
theorem Ord.of {w : World} : ∀ {a : Option Addr} {t : Tr}, NodH w a t → ∃ L, Ord w a t L
 | _, .leaf, h => by
  obtain rfl : _ = none := h
  exact ⟨[], .leaf⟩
 | _, .node l nm v r, ⟨g, la, ra, e, h1, h2, hb⟩ => by
  subst e
  obtain ⟨L, hL⟩ := Ord.of h1
  obtain ⟨R, hR⟩ := Ord.of h2
  exact ⟨_, .node hL hR hb ⟨⟨g, nm, v⟩, _, _, _, _, _, hb⟩ rfl⟩
theorem Ord.toL {w : World} {a : Option Addr} {t : Tr} {L : List (NdW w)} (h : Ord w a t L) : L.map ndV = t.toL := by
 induction h with
 | leaf => rfl
 | node _ _ _ x hx h1 h2 =>
  rw [List.map_append, List.map_cons, h1, h2, Tr.toL]
  simp only [ndV, hx]
set_option maxRecDepth 100000 in
set_option maxHeartbeats 2000000 in
theorem each_in (l N : Nat) (w : World) (J Jx : List (NdW w) → World → Prop)
  (hY : ∀ m pre x W, J pre W → KN w W → pre.length < N → YieldAt Fence.wide m Tryz.prog l (ndEnc x) W fun e W' => (e = .returned (.bool true) ∧ J (pre ++ [x]) W' ∧ KN W W') ∨ (e = .returned (.bool false) ∧ Jx (pre ++ [x]) W'))
  {a : Option Addr} {t : Tr} {L : List (NdW w)} (h : Ord w a t L) :
  ∀ (m : Nat) (pre : List (NdW w)) (W : World), J pre W → KN w W → pre.length + L.length ≤ N →
   CallsIn Fence.wide m Tryz.prog 54 #[.pointer a, .func (.yield l) #[] #[]] W (Eached w J Jx pre L) := by
 induction h with
 | leaf =>
  intro m pre W hJ hK _
  refine callsIn_of_wp Tryz.func54 rfl trivial ?_ rfl
  simp only [Tryz.ntmps54, List.size_toArray, List.length_cons, List.length_nil, Nat.reduceAdd, Nat.reduceSub, Array.replicate_succ, Array.replicate_zero, List.push_toArray, List.append_toArray, List.nil_append, List.cons_append]
  gi_wp2_with (refine wpListIn_skipW rfl ?_)
  go_ret
  exact .inl ⟨rfl, by simpa using hJ, hK⟩
 | @node tl tr nm v g la ra L R hl hr hb x hx ihl ihr =>
  intro m pre W hJ hK hN
  have hdd : ∀ k : Nat, (Fence.wide.depth.isSome = true → 1 ≤ k) := fun k h => by cases h
  rw [List.length_append, List.length_cons] at hN
  have hq : ndEnc x = #[Value.pointer (some ⟨g, 0, none⟩)] := by rw [ndEnc, hx]
  have hy2 : ∀ W1, J (pre ++ L) W1 → KN w W1 → YieldAt Fence.wide (m - 1) Tryz.prog l #[.pointer (some ⟨g, 0, none⟩)] W1 fun e W2 =>
    (e = .returned (.bool true) ∧ J (pre ++ L ++ [x]) W2 ∧ KN W1 W2) ∨ (e = .returned (.bool false) ∧ Jx (pre ++ L ++ [x]) W2) := fun W1 hJ1 hK1 => by
   have := hY (m - 1) (pre ++ L) x W1 hJ1 hK1 (by simp; omega)
   rw [hq] at this
   exact this
  have ih1 := Lib.hid ((ihl (m - 1) pre W hJ hK (by omega)).mono (R' := fun e W1 =>
    (e = .returned (.bool true) ∧ KN w W1 ∧ YieldAt Fence.wide (m - 1) Tryz.prog l #[.pointer (some ⟨g, 0, none⟩)] W1 fun e W2 =>
     (e = .returned (.bool true) ∧ J (pre ++ L ++ [x]) W2 ∧ KN W1 W2) ∨ (e = .returned (.bool false) ∧ Jx (pre ++ L ++ [x]) W2)) ∨
    (e = .returned (.bool false) ∧ ∃ q, q <+: L ∧ Jx (pre ++ q) W1))
   (fun e W1 h => h.elim (fun ⟨he, hj, hk⟩ => .inl ⟨he, hk, hy2 W1 hj hk⟩) .inr))
  have ih2 := Lib.hid (fun W hJ hK => ihr (m - 1) (pre ++ L ++ [x]) W hJ hK (by simp; omega))
  have c0 : W.cell? ⟨g, 0, none⟩ = some (.pointer la) := (hK _ _ hb).cell 0
  have HB := Lib.hid hb
  clear hy2 ihl ihr hY hN hb hq
  refine callsIn_of_wp Tryz.func54 rfl trivial ?_ rfl
  simp only [Tryz.ntmps54, List.size_toArray, List.length_cons, List.length_nil, Nat.reduceAdd, Nat.reduceSub, Array.replicate_succ, Array.replicate_zero, List.push_toArray, List.append_toArray, List.nil_append, List.cons_append]
  gi_wp2_with ((try refine ⟨trivial, hdd _, ?_⟩); gi_at_call 54; refine ih1.out.mono ?_; clear ih1; rintro e W1 (⟨rfl, hk1, fn, tmps, assign, body, hy, hR⟩ | ⟨rfl, q, hq, hx1⟩))
  ·have HK1 := Lib.hid hk1
   have c1 : W1.cell? ⟨g, 1, none⟩ = some (.pointer ra) := (hk1 _ _ HB.out).cell 1
   clear hk1 c0
   refine ⟨hdd _, ?_⟩
   refine hR.mono ?_
   clear hR
   rintro e W2 (⟨rfl, hJ2, hk2⟩ | ⟨rfl, hx2⟩)
   ·have hk := HK1.out.trans hk2
    have HK := Lib.hid hk
    have HJ2 := Lib.hid hJ2
    have c1 : W2.cell? ⟨g, 1, none⟩ = some (.pointer ra) := (hk _ _ HB.out).cell 1
    clear hk hk2 hJ2 HK1
    gi_wp2_with ((try refine ⟨trivial, hdd _, ?_⟩); gi_at_call 54; refine (ih2.out _ HJ2.out HK.out).mono ?_; clear ih2; rintro e W3 (⟨rfl, hJ3, hk3⟩ | ⟨rfl, q, hq, hx3⟩))
    ·go_ret
     exact .inl ⟨rfl, by simpa [List.append_assoc] using hJ3, hk3⟩
    ·go_ret
     exact .inr ⟨rfl, L ++ x :: q, by
      obtain ⟨z, rfl⟩ := hq
      exact ⟨z, by simp⟩, by simpa [List.append_assoc] using hx3⟩
   ·gi_wp2_with (refine wpListIn_skipW rfl ?_)
    go_ret
    exact .inr ⟨rfl, L ++ [x], by exact ⟨R, by simp⟩, by simpa [List.append_assoc] using hx2⟩
  ·refine ⟨fun _ h => (by cases h), ?_⟩
   gi_wp2_with (refine wpListIn_skipW rfl ?_)
   go_ret
   exact .inr ⟨rfl, q, hq.trans (List.prefix_append _ _), hx1⟩
set_option maxHeartbeats 1000000 in
theorem nodes_stops (m B s : Nat) (a : Option Addr) (t : Tr) (w : World) (L : List (NdW w)) (hO : Ord w a t L) (hB : Blk w B 24 #[.pointer (some ⟨s, 0, none⟩)]) (hS : Blk w s 100 #[.pointer a]) :
  SeqStopsK Fence.wide m Tryz.prog 53 #[.pointer (some ⟨B, 0, none⟩)] (fun x : NdW w => #[Value.pointer (some ⟨x.1.g, 0, none⟩)]) KN (fun ys => ys = L) (fun pre => pre <+: L) L.length w := by
 intro l J Jx W hW _ _ hY h0
 have hdd : ∀ k : Nat, (Fence.wide.depth.isSome = true → 1 ≤ k) := fun k h => by cases h
 have hp := each_in l L.length w J Jx (fun m pre x W hj _ hl => YieldAt.anyDepth rfl m (hY pre x W hj hl)) hO (m - 1) [] W h0 (KN.below hW) (by simp)
 have c1 : W.cell? ⟨B, 0, none⟩ = some (.pointer (some ⟨s, 0, none⟩)) := (hW.cell (p := ⟨B, 0, none⟩) hB.lt).trans (hB.cell 0)
 have c2 : W.cell? ⟨s, 0, none⟩ = some (.pointer a) := (hW.cell (p := ⟨s, 0, none⟩) hS.lt).trans (hS.cell 0)
 refine callsIn_of_wp Tryz.func53 rfl trivial ?_ rfl
 simp only [Tryz.ntmps53, List.size_toArray, List.length_cons, List.length_nil, Nat.reduceAdd, Nat.reduceSub, Array.replicate_succ, Array.replicate_zero, List.push_toArray, List.append_toArray, List.nil_append, List.cons_append]
 gi_wp2_with ((try refine ⟨trivial, hdd _, ?_⟩); gi_at_call 54; refine hp.mono ?_; clear hp; rintro e W1 (⟨rfl, hJ1, _⟩ | ⟨rfl, q, hq, hx⟩))
 ·go_end0
  exact ⟨⟨_, rfl⟩, .inl ⟨_, rfl, by simpa using hJ1⟩⟩
 ·go_end0
  exact ⟨⟨_, rfl⟩, .inr ⟨q, hq, by simpa using hx⟩⟩
end Go.Proofs.YtpnchdgplpdefaaGreatDoor
namespace Go.Proofs.YtpnchdgplpdefaaGreatDoor
open Go.RowKit Go.Shelf
attribute [local go_sem] Oper.semAt_some
theorem wpAny_st {P : Program} {Q : Exit → Act → World → Prop} {a : Act} {w : World} {l : List Oper} (n : Nat) (T : Nat → Prop) (RL : List (Value → World → Prop)) (ws : List (Nat × (World → Prop))) (M0 : World → Prop) (B : Nat → Nat → Bool) (hg : growS l.toArray n = true)
  (hB : beforeB l.toArray n B = true) (hch : (chainP B (ws.map (·.1)) && (ws.map (·.1)).all (fun p => decide (p < n))) = true)
  (hst : StableL T w RL) (hsw : StableW T w ws) (hs0 : ∀ w' w'', Fr T w w' → Fr Nothing w' w'' → M0 w' → M0 w'') (h0 : M0 w.drew)
  (hh : headSt P l.toArray Q T w (fun u => puts ((l.take n).map (·.dst)) 0 u a) (factOf RL) ws M0 B n 0 (l.take n))
  (ht : ∀ u w', Fr T w w' → (∀ j, j < n → factOf RL j (u j) w') → lastW ws M0 w' → wpList P l.toArray Q (l.drop n) (puts ((l.take n).map (·.dst)) 0 u a) w') : wpAny P .any l.toArray Q l.toArray.size (Array.replicate l.toArray.size false) a w.drew := by
 have ok := GrowS.of hg
 obtain ⟨u0, hu0⟩ := puts_start ((l.take n).map (·.dst)) 0 a
 have inv0 : HeadInv .any l.toArray n (Array.replicate l.toArray.size false) :=
  ⟨by simp, fun j oj _ hl => (by rw [getD_replicate_false] at hl; cases hl), fun t _ ht => getD_in (by simpa using ht) (getD_replicate_false _ _)⟩
 have hc : countU (fun j => !(Array.replicate l.toArray.size false).getD j false) n = n := by
  have h : ∀ m, countU (fun j => !(Array.replicate l.toArray.size false).getD j false) m = m := by
   intro m
   induction m with
   | zero => rfl
   | succ m ih => rw [countU, ih, getD_replicate_false]; rfl
  exact h n
 have := st_go (P := P) (Q := Q) (a := a) ok hB hch hst hsw hs0 (by simpa using hh) (by simpa using ht) n _ u0 w.drew inv0 hc ((Fr.refl _ _).drew) (by rw [stage_none ws M0 _ (fun x _ => getD_replicate_false _ _)]; exact h0) (fun j hj hl => by rw [getD_replicate_false] at hl; cases hl)
 rw [show (l.toArray.toList.take n).map (·.dst) = (l.take n).map (·.dst) by simp, hu0, show n + (l.toArray.size - n) = l.toArray.size by have := ok.le; omega] at this
 exact this
theorem wpIn_round_st {r m : Nat} {P : Program} {id : Nat} {Q : Exit → Act → World → Prop} {a : Act} {w : World} {l : List Oper} (n : Nat) (T : Nat → Prop) (RL : List (Value → World → Prop)) (ws : List (Nat × (World → Prop))) (M0 : World → Prop) (B : Nat → Nat → Bool) (hd : (l.all noDefer) = true) (hm : P.follows .mixedOrders = true) (hg : growS l.toArray n = true)
  (hB : beforeB l.toArray n B = true) (hch : (chainP B (ws.map (·.1)) && (ws.map (·.1)).all (fun p => decide (p < n))) = true)
  (hst : StableL T w RL) (hsw : StableW T w ws) (hs0 : ∀ w' w'', Fr T w w' → Fr Nothing w' w'' → M0 w' → M0 w'') (h0 : M0 w.drew)
  (hh : headSt P l.toArray (fun e a w => Q e a w ∧ e = .normal) T w (fun u => puts ((l.take n).map (·.dst)) 0 u a) (factOf RL) ws M0 B n 0 (l.take n))
  (ht : ∀ u w', Fr T w w' → (∀ j, j < n → factOf RL j (u j) w') → lastW ws M0 w' → wpList P l.toArray (fun e a w => Q e a w ∧ e = .normal) (l.drop n) (puts ((l.take n).map (·.dst)) 0 u a) w') : (Code.region id l.toArray true).wpIn (Fence.wide.inRound r) m P Q a w :=
 wpIn_region_any hm (wpAnyIn_round (fun i o ho => List.all_eq_true.1 hd o (List.mem_of_getElem? (by simpa using ho))) _ _ _ _ (wpAny_st n T RL ws M0 B hg hB hch hst hsw hs0 h0 hh ht))
theorem wpList_store1 {P : Program} {ops : Array Oper} {rest : List Oper} {o : Oper} {a : Act} {w : World} {Q : Exit → Act → World → Prop} (hgd : o.guard = none) (ty : TypeId) (x y : Operand) (ho : o.op = .store ty x y)
  (g : Nat) (v : Value) (hx : a.eval x = .pointer (some ⟨g, 0, none⟩)) (hy : a.eval y = v) (h1 : v.oneCell' = true)
  (t : TypeId) (old : Value) (hg : Blk w g t #[old]) (hi : (P.info? ty).map (·.size) = some 1)
  (h : ∀ w', Blk w' g t #[v] → Fr (fun k => k = g) w w' → wpList P ops Q rest (a.put o.dst undef) w') : wpList P ops Q (o :: rest) a w := by
 subst hy
 exact wpList_store_one hgd ty x y ho g hx h1 t old hg hi (h _ (heap_setRow_same hg) ((Fr.refl (fun k => k = g) w).setRow (fun _ => rfl) _))
theorem own_block {w : World} {base : Nat} {e : TypeId} {size n k : Nat} {v : Value} {xs : List Value} (h : w.ownsRow base e size v n xs) (hk : v.ownBlock = some k) : ∃ c f, w.heap[k]? = some (.cells c e f) := by
 rcases h.2 with ⟨rfl, _⟩ | ⟨g', cap', cur, rfl, _, hh, _⟩
 ·simp [Value.ownBlock] at hk
 ·simp [Value.ownBlock] at hk
  subst hk
  exact ⟨_, _, hh⟩
def opLoads (t : TypeId) : Op → Bool
 | .load t' _ => t == t'
 | _ => false
theorem wpListIn_round1 {r n : Nat} {P : Program} {ops : Array Oper} {Q : Exit → Act → World → Prop} {o : Oper} {l : List Oper} {a : Act} {w : World} (f : Op → Bool) (_hf : f o.op = true) (hd : ((o :: l).all noDefer) = true) (h : wpList P ops (fun e a w => Q e a w ∧ e = .normal) (o :: l) a w) : wpListIn (Fence.wide.inRound r) n P ops Q (o :: l) a w :=
 wpListIn_round hd h
def Sz (w : World) (g : Nat) : Prop := w.heap.size ≤ g
structure RowI {α : Type} (w0 w3 : World) (g2 : Nat) (bt e : TypeId) (sz : Nat) (cnt : List α → Nat) (cells : List α → List Value) (pre : List α) (W : World) : Prop where
 fr : Fr Nothing w0 W
 kn : KN w3 W
 row : ∃ v, Blk W g2 bt #[v] ∧ W.ownsRow 0 e sz v (cnt pre) (cells pre) ∧ ∀ k, v.ownBlock = some k → w0.heap.size ≤ k ∧ k ≠ g2
theorem RowI.ownFrom {α : Type} {w0 w3 : World} {g2 : Nat} {bt e : TypeId} {sz B : Nat} {cnt : List α → Nat} {cells : List α → List Value} (h2 : g2 < B) (hB : w0.heap.size ≤ B) : OwnFrom B (RowI w0 w3 g2 bt e sz cnt cells) := by
 intro pre X Y row h hg hr
 have hrow : ∀ k, k < B → some k ≠ row := fun k hk e => by have := (hr k e.symm).1; omega
 have hf : Fr (fun k => some k = row) X Y := Fr.grown hg
 obtain ⟨v, b11, hown, hl⟩ := h.row
 refine ⟨h.fr.then_ hf (fun i hi e => absurd e (hrow i (by omega))), h.kn.trans (KN.fr hf (fun g cs hb e => ?_)), ⟨v, b11.fr hf (fun e => hrow _ h2 e), own_fr hown hf (fun k hk e => ?_), hl⟩⟩
 ·obtain ⟨_, o, ho, hc⟩ := hr g e.symm
  unfold Blk at hb
  rw [hb] at ho
  cases ho
  simp [Obj.isCells] at hc
 ·obtain ⟨_, o, ho, hc⟩ := hr k e.symm
  obtain ⟨c, f, ho'⟩ := own_block hown hk
  rw [ho'] at ho
  cases ho
  simp [Obj.isCells] at hc
theorem RowI.same {α : Type} {w0 w3 W X : World} {g2 : Nat} {bt e : TypeId} {sz : Nat} {cnt : List α → Nat} {cells : List α → List Value} {pre pre' : List α} (h : RowI w0 w3 g2 bt e sz cnt cells pre W) (hX : Fr Nothing W X) (h1 : cnt pre' = cnt pre) (h2 : cells pre' = cells pre) : RowI w0 w3 g2 bt e sz cnt cells pre' X := by
 obtain ⟨v, b11, hown, hl⟩ := h.row
 refine ⟨h.fr.trans hX, h.kn.trans (KN.fr hX (fun _ _ _ x => x)), ⟨v, b11.fr hX (fun x => x), ?_, hl⟩⟩
 rw [h1, h2]
 exact own_fr hown hX (fun _ _ x => x)
theorem RowI.step {α : Type} {w0 w3 W X X2 X3 : World} {g2 B : Nat} {bt e : TypeId} {sz : Nat} {cnt : List α → Nat} {cells : List α → List Value} {pre pre' : List α} {v v2 : Value}
  (hI : RowI w0 w3 g2 bt e sz cnt cells pre W) (_h2 : g2 < B) (_hB : w0.heap.size ≤ B) (hg2 : w0.heap.size ≤ g2) (hbt : bt ≠ 69) (he : e ≠ 69) (hb : Blk W g2 bt #[v])
  (hown : W.ownsRow 0 e sz v (cnt pre) (cells pre)) (hlies : ∀ k, v.ownBlock = some k → w0.heap.size ≤ k ∧ k ≠ g2)
  (hX : Fr Nothing W X) (hG : Grew e sz X v X2 v2 (cnt pre') (cells pre')) (f3 : Fr (fun k => k = g2) X2 X3) (b3 : Blk X3 g2 bt #[v2]) :
  KeepsFrom B W X3 ∧ KN W X3 ∧ RowI w0 w3 g2 bt e sz cnt cells pre' X3 := by
 have s1 : w0.heap.size ≤ W.heap.size := hI.fr.size
 have s2 : W.heap.size ≤ X.heap.size := hX.size
 have s3 : g2 < W.heap.size := hb.lt
 have hl2 : ∀ k, v2.ownBlock = some k → w0.heap.size ≤ k ∧ k ≠ g2 := fun k hk => by
  rcases hG.lies k hk with h | h
  ·exact hlies k h
  ·constructor <;> omega
 have F : Fr (fun k => k = g2 ∨ v.ownBlock = some k) W X3 := by
  have A1 : Fr (fun k => k = g2 ∨ v.ownBlock = some k) W X2 := (hX.weak).trans (hG.fr.mono (fun i _ h => .inr h))
  exact A1.trans (f3.mono (fun i _ h => .inl h))
 have K : KN W X3 := KN.fr F (fun g cs hn h => by
  unfold Blk at hn hb
  rcases h with rfl | h
  ·rw [hb] at hn
   cases hn
   exact hbt rfl
  ·obtain ⟨c, f, ho⟩ := own_block hown h
   rw [ho] at hn
   cases hn
   exact he rfl)
 refine ⟨⟨F.size, fun k o _ ho hc => ?_⟩, K, ?_, hI.kn.trans K, ?_⟩
 ·refine (F.block k (Array.getElem?_eq_some_iff.1 ho).1 ?_).trans ho
  rintro (rfl | h)
  ·omega
  ·obtain ⟨c, f, ho'⟩ := own_block hown h
   rw [ho] at ho'
   cases ho'
   simp [Obj.isCells] at hc
 ·refine hI.fr.then_ F (fun i hi h => ?_)
  rcases h with h | h
  ·omega
  ·have := (hlies i h).1
   omega
 ·exact ⟨v2, b3, own_fr hG.own f3 (fun k hk e => (hl2 k hk).2 e), hl2⟩
theorem KN.put (W : World) (l : Nat) (o o' : Obj) (h : W.heap[l]? = some o) (hc : o.isCells = false) : KN W (W.putObj l o') :=
 KN.fr (Fr.grown (grownBy_putObj' W l o')) (fun g cs hb e => by
  have e' : g = l := by simpa using e
  subst e'
  unfold Blk at hb
  rw [hb] at h
  cases h
  simp [Obj.isCells] at hc)
theorem nodes_any (a : Option Addr) (w : World) : Calls Tryz.prog 23 #[.pointer a] w fun r w' => r = .returned (.func (.func 53) #[] #[.pointer (some ⟨w.heap.size, 0, none⟩)]) ∧ Fr Nothing w w' ∧ Blk w' w.heap.size 24 #[.pointer a] := by
 go_enter Tryz.func23, Tryz.ntmps23
 go_wp2_with (refine wpList_boxBlk rfl 24 (.tmp 0) rfl #[.pointer a] rfl ?_)
 intro w1 n1
 have N1 := Lib.hid n1
 clear n1
 go_wp2
 go_ret
 exact ⟨rfl, N1.out.fr, N1.out.blk⟩
def ptrN (x : Nd) : Value := .pointer (some ⟨x.g, 0, none⟩)
theorem infoNdP : (Tryz.prog.info? 66).map (fun i => (i.zero, i.size, i.bytes)) = some (some (.pointer none), 1, 8) := by kernel_rfl
theorem infoNames : (Tryz.prog.info? 95).map (·.size) = some 1 := by kernel_rfl
theorem infoNds : (Tryz.prog.info? 136).map (·.size) = some 1 := by kernel_rfl
theorem infoNmP : (Tryz.prog.info? 44).map (fun i => (i.zero, i.size, i.bytes)) = some (some nameZ, 5, 56) := by kernel_rfl
theorem zvNds (w : World) : (zeroValue 136).run Tryz.prog w = .ok (.slice none 0 0) w := by kernel_rfl
theorem foldl5 (cs b : Array Value) (hc : cs.size = 5) (hb : b.size = 5) : Instr.fill (fun i => some (i * 5, 5)) b [(0, .agg cs)] = some cs := by
 have hf := fold_arr cs b 0 (by omega)
 simp only [Instr.fill, Value.cells, hc, hb, Nat.zero_mul, Nat.zero_add, ne_eq, not_true_eq_false, decide_false, Bool.false_or, gt_iff_lt, Nat.lt_irrefl, Bool.false_eq_true, if_false]
 simp only [Nat.zero_add, List.take_zero, List.nil_append, hc] at hf
 rw [List.drop_of_length_le (by simp [hb]), List.append_nil] at hf
 rw [hf]
theorem rd_new1 (w : World) (n : NameV) : Rd (w.alloc (.cells n.cells.toArray 44)) (fun _ => True) 5 (some ⟨w.heap.size, 0, none⟩) 1 n.cells := by
 refine ⟨rfl, fun _ => ⟨_, rfl, trivial, fun j x hx => ?_⟩⟩
 rw [Addr.add_mid, Nat.zero_add, (Blk.new w 44 n.cells.toArray).cell, List.getElem?_toArray]
 exact hx
set_option maxRecDepth 100000 in
set_option maxHeartbeats 2000000 in
theorem Names_any (s : Nat) (t : Tr) (w : World) (hS0 : StH w s t) (hz0 : t.size ≤ 1048576) : Calls Tryz.prog 41 #[.pointer (some ⟨s, 0, none⟩)] w (fun r w' => ∃ v, r = .returned v ∧ Grew 44 5 w (.slice none 0 0) w' v t.size (t.toL.flatMap (fun x => x.1.cells))) := by
  obtain ⟨i0, hi0, hz0', hz1, hz2⟩ := info_parts infoNmP
  have CN := Lib.hid (fun w => nodes_any (some ⟨s, 0, none⟩) w)
  have HZ := Lib.hid hz0
  have HS := Lib.hid hS0
  clear hS0 hz0
  refine (callsIn_wide (n := 6)).1 (callsIn_of_wp_marks Tryz.func41 rfl trivial (wpIn_wide.2 ?_) rfl)
  simp only [Tryz.ntmps41, List.size_toArray, List.length_cons, List.length_nil, Nat.reduceAdd, Nat.reduceSub, Array.replicate_succ, Array.replicate_zero, List.push_toArray, List.append_toArray, List.nil_append, List.cons_append]
  go_wp2_with (refine wpList_allocBlk rfl 95 rfl (.slice none 0 0) zvNames #[.slice none 0 0] rfl ?_)
  intro w2 n2
  have B2 := Lib.hid n2.blk
  have F2 : Hid (Fr Nothing w w2) := n2.fr
  have HG2 : Sz w w.heap.size := Nat.le_refl _
  clear n2
  generalize w.heap.size = g2 at *
  have O2 : Hid (w2.ownsRow 0 44 5 (.slice none 0 0) 0 []) := ⟨rfl, .inl ⟨rfl, rfl⟩⟩
  have OL : Hid (∀ k, (Value.slice none 0 0).ownBlock = some k → w.heap.size ≤ k ∧ k ≠ g2) := fun k hk => by simp [Value.ownBlock] at hk
  go_wp2_with fail
  refine (CN.out _).mono ?_
  rintro r w3 ⟨rfl, f3, b3⟩
  have F3 := Lib.hid (F2.out.trans f3)
  have B3 := Lib.hid (B2.out.fr f3 (fun x => x))
  have O3 := Lib.hid (own_fr O2.out f3 (fun _ _ x => x))
  have G3 := Lib.hid b3
  have LT : Hid (g2 < w3.heap.size) := B3.out.lt
  clear f3 b3 F2 B2 O2
  generalize w2.heap.size = gs at *
  obtain ⟨a3, hs3, hn3⟩ := HS.out.fr0 F3.out
  obtain ⟨L, hL⟩ := Ord.of hn3
  have LL := Lib.hid hL.toL
  have LZ : Hid (L.length = t.size) := by
    have h := congrArg List.length LL.out
    have h2 : L.length = t.size := by simpa [Tr.toL_length] using h
    exact h2
  have HO := Lib.hid hL
  have HS3 := Lib.hid hs3
  clear hs3 hn3 hL
  go_wp2_with fail
  refine (wpIn_wide (n := 6)).1 ?_
  refine wpIn_rangeFunc_ownG rfl (by omega) (gf := 53) (lb := #[.pointer (some ⟨gs, 0, none⟩)]) rfl trivial (enters_of Tryz.func53 (by kernel_rfl) rfl)
    (nodes_stops 5 gs s a3 t w3 L HO.out G3.out HS3.out) (fun h k => h.trans k) (fun W l o o' _ ho hc _ => KN.put W l o o' ho hc) (Below.refl _ _) (fun _ => rfl)
    (RowI w w3 g2 95 44 5 (fun ys : List (NdW w3) => ys.length) (fun ys : List (NdW w3) => ys.flatMap (fun y => y.1.nm.cells))) (fun _ _ _ => False) (RowI.ownFrom LT.out F3.out.size) (fun _ _ _ _ _ h _ _ => h.elim)
    ⟨F3.out, KN.refl _, _, B3.out, O3.out, OL.out⟩ ?a1 ?assign ?body ?done ?stop
  case assign =>
    intro l x W K hK
    gi_wp2
    exact hK
  case body =>
    rintro l' pre x W hI hlt
    have HI := Lib.hid hI
    have HL := Lib.hid hlt
    obtain ⟨_, hkn, ⟨v, b11, hrow, hlies⟩⟩ := hI
    obtain ⟨A1, m1, c1, rfl, H1, H2⟩ := own_slice hrow
    have HROW := Lib.hid hrow
    have HLI := Lib.hid hlies
    have B11 := Lib.hid b11
    have c11 := b11.cell 0
    simp only [List.getElem?_toArray, List.getElem?_cons_zero] at c11
    have MX := Lib.hid (x.2.kn hkn).mid
    obtain ⟨⟨gx, nx, vx⟩, hx⟩ := x
    simp only at MX ⊢
    clear b11 hrow hlies hlt hkn
    have gc1 : Hid (¬ 1 * i0.size > 2 ^ 24) := by simp only [Hid]; rw [hz1]; omega
    have gc2 : Hid (¬ 1 * i0.size = 0) := by simp only [Hid]; rw [hz1]; omega
    have FS : Hid (Instr.fill (fun i => some (i * i0.size, i0.size)) ((Array.range (1 * i0.size)).map (nameZ.cells[· % nameZ.cells.size]!)) [(0, .agg nx.cells.toArray)] = some nx.cells.toArray) := by simp only [Hid]; rw [hz1]; exact foldl5 _ _ rfl (by simp)
    gi_wp2
    refine wpIn_round_st 6 Nothing [Is (.slice A1 m1 c1), Is (.pointer (some ⟨gx, 0, none⟩)), Is (.pointer (some ⟨gx, 0, none⟩)), Is (.pointer (some ⟨gx, 2, none⟩)), Is (.agg nx.cells.toArray), (fun v w' => ∃ g, v = .slice (some ⟨g, 0, none⟩) 1 1 ∧ Rd w' (fun _ => True) 5 (some ⟨g, 0, none⟩) 1 nx.cells)] [] (fun _ => True) (fun _ _ => false) (by kernel_rfl) (by kernel_rfl) (by kernel_rfl) (by kernel_rfl) (by kernel_rfl) ⟨Is.stable _, Is.stable _, Is.stable _, Is.stable _, Is.stable _, fun v w1 w2 _ f h => by obtain ⟨g, e, hr⟩ := h; exact ⟨g, e, hr.fr0 f⟩, trivial⟩ trivial (fun _ _ _ _ h => h) trivial ?_ ?_
    · refine ⟨fun u w' d hf hR k1 k0 kM => ?_, fun u w' d hf hR k1 k0 kM => ?_, fun u w' d hf hR k1 k0 kM => ?_, fun u w' d hf hR k1 k0 kM => ?_, fun u w' d hf hR k1 k0 kM => ?_, fun u w' d hf hR k1 k0 kM => ?_, trivial⟩
      all_goals simp only [List.take_succ_cons, List.take_zero, List.map_cons, List.map_nil, puts, Act.put, List.setIfInBounds_toArray, List.set_cons_zero, List.set_cons_succ, Nat.reduceAdd, Nat.zero_add]
      · clear hR k1 k0 kM
        refine .inl ⟨by kernel_rfl, ?_⟩
        have q := hf.cellSome c11 (fun x => x)
        go_simp
        exact ⟨_, rfl, Fr.refl _ _, rfl, trivial⟩
      · clear hR k1 k0 kM
        refine .inl ⟨by kernel_rfl, ?_⟩
        go_simp
        exact ⟨_, rfl, Fr.refl _ _, rfl, trivial⟩
      · have h1 : u 1 = _ := hR 1 (by kernel_rfl)
        clear hR k1 k0 kM
        simp only [h1]
        refine .inl ⟨by kernel_rfl, ?_⟩
        go_simp
        exact ⟨_, rfl, Fr.refl _ _, rfl, trivial⟩
      · have h2 : u 2 = _ := hR 2 (by kernel_rfl)
        clear hR k1 k0 kM
        simp only [h2]
        refine .inl ⟨by kernel_rfl, ?_⟩
        go_simp
        exact ⟨_, rfl, Fr.refl _ _, rfl, trivial⟩
      · have h3 : u 3 = _ := hR 3 (by kernel_rfl)
        clear hR k1 k0 kM
        simp only [h3]
        refine .inl ⟨by kernel_rfl, ?_⟩
        exact wp_load_add _ _ rfl ⟨gx, 2, none⟩ rfl nx.cells _ (fun j v hv => by rw [Addr.add_mid]; exact hf.cellSome (MX.out.name j v hv) (fun x => x)) Tryz.underlying44 rfl infoName ⟨_, rfl, Fr.refl _ _, rfl, trivial⟩
      · have h4 : u 4 = _ := hR 4 (by kernel_rfl)
        clear hR k1 k0 kM
        simp only [h4]
        refine .inl ⟨by kernel_rfl, ?_⟩
        refine wp_buildSlice 95 44 1 _ rfl nx.cells.toArray i0 nameZ Tryz.underlying95 hi0 hz0' gc1.out gc2.out (by simp only [List.map_toArray, List.map_cons, List.map_nil]; exact FS.out) ?_
        refine ⟨_, rfl, (Fr.refl _ _).alloc _, ⟨_, rfl, rd_new1 w' nx⟩, trivial⟩
    · intro u w' hf hR kM
      have k0 : u 0 = _ := hR 0 (by omega)
      obtain ⟨gn, k5, hrd⟩ := hR 5 (by omega)
      clear hR kM
      simp only [List.take_succ_cons, List.take_zero, List.map_cons, List.map_nil, puts, Act.put, List.setIfInBounds_toArray, List.set_cons_zero, List.set_cons_succ, List.drop_succ_cons, List.drop_zero, Nat.reduceAdd, Nat.zero_add, k0, k5]
      have HRD := Lib.hid hrd
      have B11w := Lib.hid (B11.out.fr hf (fun x => x))
      have HROWw := Lib.hid (own_fr HROW.out hf (fun _ _ x => x))
      have HF := Lib.hid hf
      clear hrd hf k0 k5
      go_wp2_with (at_builtin; refine wpList_app _ rfl _ _ 95 rfl 44 i0 nameZ 5 56 Tryz.underlying95 hi0 hz0' hz1 hz2 rfl (by omega) _ _ _ rfl HROWw.out _ _ 1 _ _ rfl HRD.out ?e1 ?e2 (by omega) ?_)
      case e1 => exact fun u hu => Array.all_eq_true_iff_forall_mem.1 nx.one u (by simpa using hu)
      case e2 => have := HL.out; have := LZ.out; have := HZ.out; have := Nat.le_refl pre.length; omega
      intro v2 y2 hG
      have KG := Lib.hid hG
      clear hG
      have B11y : Hid (Blk y2 g2 95 #[.slice A1 m1 c1]) := B11w.out.fr KG.out.fr (fun e => (HLI.out _ e).2 rfl)
      obtain ⟨A2, m2, c2, rfl, _, _⟩ := own_slice KG.out.own
      go_wp2_with (refine wpList_store1 rfl 95 (.tmp 3) _ rfl g2 (.slice A2 m2 c2) rfl rfl rfl _ _ B11y.out infoNames ?_)
      intro y3 b3 f3
      refine ⟨?_, rfl⟩
      have KG' : Grew 44 5 w' (.slice A1 m1 c1) y2 (.slice A2 m2 c2) ((pre ++ [(⟨⟨gx, nx, vx⟩, hx⟩ : NdW w3)]).length) ((pre ++ [(⟨⟨gx, nx, vx⟩, hx⟩ : NdW w3)]).flatMap (fun y => y.1.nm.cells)) := by
        have h := KG.out
        simpa [List.flatMap_append] using h
      have KEY := RowI.step (v := .slice A1 m1 c1) (v2 := .slice A2 m2 c2) HI.out LT.out F3.out.size HG2 (by decide) (by decide) B11.out HROW.out HLI.out HF.out KG' f3 b3
      exact ⟨KEY.1, KEY.2.1, KEY.2.2⟩
  case done =>
    rintro D xs W hD rfl hI hK
    obtain ⟨hf, hkn, ⟨v, b11, hrow, hlies⟩⟩ := hI
    obtain ⟨A1, m1, c1, rfl, H1, H2⟩ := own_slice hrow
    have PF : Fr (fun k => some k = some D) W (W.putObj D (.deferred none)) := Fr.grown (grownBy_putObj' W D _)
    have KD := Lib.hid hK
    have JF : Hid (Fr Nothing w (W.putObj D (.deferred none))) := hf.then_ PF (fun i hi e => by have e' : i = D := (by simpa using e); have := F3.out.size; have := hD; omega)
    have JK : Hid (KN w3 (W.putObj D (.deferred none))) := hkn.trans (KN.put W D _ _ hK rfl)
    have KO : Hid ((W.putObj D (.deferred none)).ownsRow 0 44 5 (.slice A1 m1 c1) ((fun ys : List (NdW w3) => ys.length) xs) ((fun ys : List (NdW w3) => ys.flatMap (fun y => y.1.nm.cells)) xs)) :=
      own_fr hrow PF (fun k hk e => by
            have e' : k = D := by simpa using e
            subst e'
            obtain ⟨c, f, ho⟩ := own_block hrow hk
            rw [KD.out] at ho
            cases ho)
    have HLI : Hid (∀ k, (Value.slice A1 m1 c1).ownBlock = some k → w.heap.size ≤ k) := fun k hk => (hlies k hk).1
    have c11 := b11.cell 0
    simp only [List.getElem?_toArray, List.getElem?_cons_zero] at c11
    clear PF hf b11 hrow hlies hD hK hkn
    go_wp2
    refine ⟨by simp, .inl ⟨_, _, rfl, run_takeDeferred KD.out, ?_⟩⟩
    refine ⟨_, results_tmp Tryz.results41 _ _ _, ?_⟩
    refine ⟨_, rfl, ?_, JF.out.weak, fun k hk => .inr (HLI.out k hk)⟩
    have h := KO.out
    rw [LZ.out] at h
    rw [← LL.out, List.flatMap_map]
    exact h
  case stop =>
    rintro D cd pre W hD _ h
    exact h.elim
end Go.Proofs.YtpnchdgplpdefaaGreatDoor
