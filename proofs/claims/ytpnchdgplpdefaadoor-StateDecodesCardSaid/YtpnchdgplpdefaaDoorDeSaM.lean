/- State: the nodes of a tree, one after the other. -/
import Derived.Test.YtpnchdgplpdefaaDoorDeSaF
import Derived.RangeFuncWrites
import Derived.RangeFuncBox
import Derived.LoopNIn
import Derived.LoopIn
import Derived.OwnWalkIn
import Derived.TacticsInMore
import Derived.RangeFuncNested
import Derived.RangeFuncBound
import Derived.RangeFuncLeaves
import Derived.Shelf.Abstract
import Derived.Shelf.RegionOpen
namespace Go.Proofs.YtpnchdgplpdefaaDoor
open Go.RowKit Go.Shelf
attribute [local go_sem] Oper.semAt_some
theorem RoundIn.anyDepth {F : Fence} (hd : F.depth = none) {m m' : Nat} {P : Program} {l : Nat} {f : FuncId} {tmps : Array Value} {assign body : Code} {w : World} {R : Ending → World → Prop}
  (h : RoundIn F m P l f tmps assign body w R) : RoundIn F m' P l f tmps assign body w R := ⟨h.1, fun c cs _ => h.2 c cs (fun d h => by rw [hd] at h; cases h)⟩
theorem YieldAt.anyDepth {F : Fence} (hd : F.depth = none) {m : Nat} (m' : Nat) {P : Program} {l : Nat} {args : Array Value} {W : World} {R : Ending → World → Prop} (h : YieldAt F m P l args W R) : YieldAt F m' P l args W R := by
 obtain ⟨fn, tmps, assign, body, hy, hR⟩ := h
 exact ⟨fn, tmps, assign, body, hy, RoundIn.anyDepth hd hR⟩
def Tr.toL : Tr → List (NameV × ByteArray)
 | .leaf => []
 | .node l nm v r => l.toL ++ (nm, v) :: r.toL
theorem Tr.toL_length : ∀ t : Tr, t.toL.length = t.size
 | .leaf => rfl
 | .node l nm v r => by
  simp only [Tr.toL, Tr.size, List.length_append, List.length_cons, l.toL_length, r.toL_length]
  omega
def KN (A B : World) : Prop := ∀ g cs, Blk A g 89 cs → Blk B g 89 cs
theorem KN.refl (A : World) : KN A A := fun _ _ h => h
theorem KN.trans {A B C : World} (h : KN A B) (k : KN B C) : KN A C := fun g cs hb => k g cs (h g cs hb)
theorem KN.fr {A B : World} {T : Nat → Prop} (h : Fr T A B) (hT : ∀ g cs, Blk A g 89 cs → ¬ T g) : KN A B := fun g cs hb => hb.fr h (hT g cs hb)
theorem KN.below {A B : World} (h : Below A.heap.size A B) : KN A B := fun g _ hb => (h.block g hb.lt).trans hb
theorem NodH.kn {w w' : World} : ∀ {a : Option Addr} {t : Tr}, NodH w a t → KN w w' → NodH w' a t
 | _, .leaf, h, _ => h
 | _, .node _ _ _ _, ⟨g, la, ra, e, h1, h2, hb⟩, hf => ⟨g, la, ra, e, h1.kn hf, h2.kn hf, hf g _ hb⟩
structure Nd where
 g : Nat
 nm : NameV
 v : ByteArray
def NdAt (w : World) (x : Nd) : Prop := ∃ a b c d e, Blk w x.g 89 ([a, b] ++ x.nm.cells ++ [Value.string x.v, c, d, e]).toArray
theorem NdAt.kn {w w' : World} {x : Nd} (h : NdAt w x) (k : KN w w') : NdAt w' x := by
 obtain ⟨a, b, c, d, e, hb⟩ := h
 exact ⟨a, b, c, d, e, k _ _ hb⟩
theorem NdAt.mid {w : World} {x : Nd} (h : NdAt w x) : Mid w x.g x.nm x.v := by
 obtain ⟨a, b, c, d, e, hb⟩ := h
 exact Mid.of hb
abbrev NdW (w : World) := {x : Nd // NdAt w x}
def ndEnc {w : World} (x : NdW w) : Array Value := #[.pointer (some ⟨x.1.g, 0, none⟩)]
def ndV {w : World} (x : NdW w) : NameV × ByteArray := (x.1.nm, x.1.v)
theorem wpListIn_skipW {n : Nat} {P : Program} {ops : Array Oper} {Q : Exit → Act → World → Prop} {a : Act} {w : World} {rest : List Oper} {o : Oper} (hw : Region.wanted o (yielded ops a.tmps) = false)
  (h : wpListIn Fence.wide n P ops Q rest (a.put o.dst undef) w) : wpListIn Fence.wide n P ops Q (o :: rest) a w := by
 rw [wpListIn, if_neg (by rw [hw]; simp)]
 exact ⟨fun _ _ => trivial, h⟩
def Eached (w : World) (J Jx : List (NdW w) → World → Prop) (pre xs : List (NdW w)) (e : Ending) (W' : World) : Prop :=
 (e = .returned (.bool true) ∧ J (pre ++ xs) W' ∧ KN w W') ∨ (e = .returned (.bool false) ∧ ∃ q, q <+: xs ∧ Jx (pre ++ q) W')
inductive Ord (w : World) : Option Addr → Tr → List (NdW w) → Prop where
 | leaf : Ord w none .leaf []
 | node {l r : Tr} {nm : NameV} {v : ByteArray} {g : Nat} {la ra : Option Addr} {L R : List (NdW w)} (hl : Ord w la l L) (hr : Ord w ra r R)
   (hb : Blk w g 89 (nodeC la ra (.node l nm v r)).toArray) (x : NdW w) (hx : x.1 = ⟨g, nm, v⟩) : Ord w (some ⟨g, 0, none⟩) (.node l nm v r) (L ++ x :: R)
theorem Ord.of {w : World} : ∀ {a : Option Addr} {t : Tr}, NodH w a t → ∃ L, Ord w a t L
 | _, .leaf, h => by
  obtain rfl : _ = none := h
  exact ⟨[], .leaf⟩
 | _, .node l nm v r, ⟨g, la, ra, e, h1, h2, hb⟩ => by
  subst e
  obtain ⟨L, hL⟩ := Ord.of h1
  obtain ⟨R, hR⟩ := Ord.of h2
  exact ⟨_, .node hL hR hb ⟨⟨g, nm, v⟩, _, _, _, _, _, hb⟩ rfl⟩
theorem Ord.toL {w : World} {a : Option Addr} {t : Tr} {L : List (NdW w)} (h : Ord w a t L) : L.map ndV = t.toL := by
 induction h with
 | leaf => rfl
 | node _ _ _ x hx h1 h2 =>
  rw [List.map_append, List.map_cons, h1, h2, Tr.toL]
  simp only [ndV, hx]
set_option maxRecDepth 100000 in
set_option maxHeartbeats 2000000 in
theorem each_in (l N : Nat) (w : World) (J Jx : List (NdW w) → World → Prop)
  (hY : ∀ m pre x W, J pre W → KN w W → pre.length < N → YieldAt Fence.wide m Tryd.prog l (ndEnc x) W fun e W' => (e = .returned (.bool true) ∧ J (pre ++ [x]) W' ∧ KN W W') ∨ (e = .returned (.bool false) ∧ Jx (pre ++ [x]) W'))
  {a : Option Addr} {t : Tr} {L : List (NdW w)} (h : Ord w a t L) :
  ∀ (m : Nat) (pre : List (NdW w)) (W : World), J pre W → KN w W → pre.length + L.length ≤ N →
   CallsIn Fence.wide m Tryd.prog 73 #[.pointer a, .func (.yield l) #[] #[]] W (Eached w J Jx pre L) := by
 induction h with
 | leaf =>
  intro m pre W hJ hK _
  refine callsIn_of_wp Tryd.func73 rfl trivial ?_ rfl
  simp only [Tryd.ntmps73, List.size_toArray, List.length_cons, List.length_nil, Nat.reduceAdd, Nat.reduceSub, Array.replicate_succ, Array.replicate_zero, List.push_toArray, List.append_toArray, List.nil_append, List.cons_append]
  gi_wp2_with (refine wpListIn_skipW rfl ?_)
  go_ret
  exact .inl ⟨rfl, by simpa using hJ, hK⟩
 | @node tl tr nm v g la ra L R hl hr hb x hx ihl ihr =>
  intro m pre W hJ hK hN
  have hdd : ∀ k : Nat, (Fence.wide.depth.isSome = true → 1 ≤ k) := fun k h => by cases h
  rw [List.length_append, List.length_cons] at hN
  have hq : ndEnc x = #[Value.pointer (some ⟨g, 0, none⟩)] := by rw [ndEnc, hx]
  have hy2 : ∀ W1, J (pre ++ L) W1 → KN w W1 → YieldAt Fence.wide (m - 1) Tryd.prog l #[.pointer (some ⟨g, 0, none⟩)] W1 fun e W2 =>
    (e = .returned (.bool true) ∧ J (pre ++ L ++ [x]) W2 ∧ KN W1 W2) ∨ (e = .returned (.bool false) ∧ Jx (pre ++ L ++ [x]) W2) := fun W1 hJ1 hK1 => by
   have := hY (m - 1) (pre ++ L) x W1 hJ1 hK1 (by simp; omega)
   rw [hq] at this
   exact this
  have ih1 := Lib.hid ((ihl (m - 1) pre W hJ hK (by omega)).mono (R' := fun e W1 =>
    (e = .returned (.bool true) ∧ KN w W1 ∧ YieldAt Fence.wide (m - 1) Tryd.prog l #[.pointer (some ⟨g, 0, none⟩)] W1 fun e W2 =>
     (e = .returned (.bool true) ∧ J (pre ++ L ++ [x]) W2 ∧ KN W1 W2) ∨ (e = .returned (.bool false) ∧ Jx (pre ++ L ++ [x]) W2)) ∨
    (e = .returned (.bool false) ∧ ∃ q, q <+: L ∧ Jx (pre ++ q) W1))
   (fun e W1 h => h.elim (fun ⟨he, hj, hk⟩ => .inl ⟨he, hk, hy2 W1 hj hk⟩) .inr))
  have ih2 := Lib.hid (fun W hJ hK => ihr (m - 1) (pre ++ L ++ [x]) W hJ hK (by simp; omega))
  have c0 : W.cell? ⟨g, 0, none⟩ = some (.pointer la) := (hK _ _ hb).cell 0
  have HB := Lib.hid hb
  clear hy2 ihl ihr hY hN hb hq
  refine callsIn_of_wp Tryd.func73 rfl trivial ?_ rfl
  simp only [Tryd.ntmps73, List.size_toArray, List.length_cons, List.length_nil, Nat.reduceAdd, Nat.reduceSub, Array.replicate_succ, Array.replicate_zero, List.push_toArray, List.append_toArray, List.nil_append, List.cons_append]
  gi_wp2_with ((try refine ⟨trivial, hdd _, ?_⟩); gi_at_call 73; refine ih1.out.mono ?_; clear ih1; rintro e W1 (⟨rfl, hk1, fn, tmps, assign, body, hy, hR⟩ | ⟨rfl, q, hq, hx1⟩))
  ·have HK1 := Lib.hid hk1
   have c1 : W1.cell? ⟨g, 1, none⟩ = some (.pointer ra) := (hk1 _ _ HB.out).cell 1
   clear hk1 c0
   refine ⟨hdd _, ?_⟩
   refine hR.mono ?_
   clear hR
   rintro e W2 (⟨rfl, hJ2, hk2⟩ | ⟨rfl, hx2⟩)
   ·have hk := HK1.out.trans hk2
    have HK := Lib.hid hk
    have HJ2 := Lib.hid hJ2
    have c1 : W2.cell? ⟨g, 1, none⟩ = some (.pointer ra) := (hk _ _ HB.out).cell 1
    clear hk hk2 hJ2 HK1
    gi_wp2_with ((try refine ⟨trivial, hdd _, ?_⟩); gi_at_call 73; refine (ih2.out _ HJ2.out HK.out).mono ?_; clear ih2; rintro e W3 (⟨rfl, hJ3, hk3⟩ | ⟨rfl, q, hq, hx3⟩))
    ·go_ret
     exact .inl ⟨rfl, by simpa [List.append_assoc] using hJ3, hk3⟩
    ·go_ret
     exact .inr ⟨rfl, L ++ x :: q, by
      obtain ⟨z, rfl⟩ := hq
      exact ⟨z, by simp⟩, by simpa [List.append_assoc] using hx3⟩
   ·gi_wp2_with (refine wpListIn_skipW rfl ?_)
    go_ret
    exact .inr ⟨rfl, L ++ [x], by exact ⟨R, by simp⟩, by simpa [List.append_assoc] using hx2⟩
  ·refine ⟨fun _ h => (by cases h), ?_⟩
   gi_wp2_with (refine wpListIn_skipW rfl ?_)
   go_ret
   exact .inr ⟨rfl, q, hq.trans (List.prefix_append _ _), hx1⟩
set_option maxHeartbeats 1000000 in
theorem nodes_stops (m B s : Nat) (a : Option Addr) (t : Tr) (w : World) (L : List (NdW w)) (hO : Ord w a t L) (hB : Blk w B 24 #[.pointer (some ⟨s, 0, none⟩)]) (hS : Blk w s 85 #[.pointer a]) :
  SeqStopsK Fence.wide m Tryd.prog 72 #[.pointer (some ⟨B, 0, none⟩)] (fun x : NdW w => #[Value.pointer (some ⟨x.1.g, 0, none⟩)]) KN (fun ys => ys = L) (fun pre => pre <+: L) L.length w := by
 intro l J Jx W hW _ _ hY h0
 have hdd : ∀ k : Nat, (Fence.wide.depth.isSome = true → 1 ≤ k) := fun k h => by cases h
 have hp := each_in l L.length w J Jx (fun m pre x W hj _ hl => YieldAt.anyDepth rfl m (hY pre x W hj hl)) hO (m - 1) [] W h0 (KN.below hW) (by simp)
 have c1 : W.cell? ⟨B, 0, none⟩ = some (.pointer (some ⟨s, 0, none⟩)) := (hW.cell (p := ⟨B, 0, none⟩) hB.lt).trans (hB.cell 0)
 have c2 : W.cell? ⟨s, 0, none⟩ = some (.pointer a) := (hW.cell (p := ⟨s, 0, none⟩) hS.lt).trans (hS.cell 0)
 refine callsIn_of_wp Tryd.func72 rfl trivial ?_ rfl
 simp only [Tryd.ntmps72, List.size_toArray, List.length_cons, List.length_nil, Nat.reduceAdd, Nat.reduceSub, Array.replicate_succ, Array.replicate_zero, List.push_toArray, List.append_toArray, List.nil_append, List.cons_append]
 gi_wp2_with ((try refine ⟨trivial, hdd _, ?_⟩); gi_at_call 73; refine hp.mono ?_; clear hp; rintro e W1 (⟨rfl, hJ1, _⟩ | ⟨rfl, q, hq, hx⟩))
 ·go_end0
  exact ⟨⟨_, rfl⟩, .inl ⟨_, rfl, by simpa using hJ1⟩⟩
 ·go_end0
  exact ⟨⟨_, rfl⟩, .inr ⟨q, hq, by simpa using hx⟩⟩
end Go.Proofs.YtpnchdgplpdefaaDoor
