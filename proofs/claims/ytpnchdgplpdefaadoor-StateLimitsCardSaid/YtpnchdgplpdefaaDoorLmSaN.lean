/- State: the rows that a state's iterator fills: list, Names, Kind (written by genSaN.py). -/
import Derived.Test.YtpnchdgplpdefaaDoorLmSaM
namespace Go.Proofs.YtpnchdgplpdefaaDoor
open Go.RowKit Go.Shelf
attribute [local go_sem] Oper.semAt_some
theorem wpAny_st {P : Program} {Q : Exit → Act → World → Prop} {a : Act} {w : World} {l : List Oper} (n : Nat) (T : Nat → Prop) (RL : List (Value → World → Prop)) (ws : List (Nat × (World → Prop))) (M0 : World → Prop) (B : Nat → Nat → Bool) (hg : growS l.toArray n = true)
  (hB : beforeB l.toArray n B = true) (hch : (chainP B (ws.map (·.1)) && (ws.map (·.1)).all (fun p => decide (p < n))) = true)
  (hst : StableL T w RL) (hsw : StableW T w ws) (hs0 : ∀ w' w'', Fr T w w' → Fr Nothing w' w'' → M0 w' → M0 w'') (h0 : M0 w.drew)
  (hh : headSt P l.toArray Q T w (fun u => puts ((l.take n).map (·.dst)) 0 u a) (factOf RL) ws M0 B n 0 (l.take n))
  (ht : ∀ u w', Fr T w w' → (∀ j, j < n → factOf RL j (u j) w') → lastW ws M0 w' → wpList P l.toArray Q (l.drop n) (puts ((l.take n).map (·.dst)) 0 u a) w') : wpAny P .any l.toArray Q l.toArray.size (Array.replicate l.toArray.size false) a w.drew := by
 have ok := GrowS.of hg
 obtain ⟨u0, hu0⟩ := puts_start ((l.take n).map (·.dst)) 0 a
 have inv0 : HeadInv .any l.toArray n (Array.replicate l.toArray.size false) :=
  ⟨by simp, fun j oj _ hl => (by rw [getD_replicate_false] at hl; cases hl), fun t _ ht => getD_in (by simpa using ht) (getD_replicate_false _ _)⟩
 have hc : countU (fun j => !(Array.replicate l.toArray.size false).getD j false) n = n := by
  have h : ∀ m, countU (fun j => !(Array.replicate l.toArray.size false).getD j false) m = m := by
   intro m
   induction m with
   | zero => rfl
   | succ m ih => rw [countU, ih, getD_replicate_false]; rfl
  exact h n
 have := st_go (P := P) (Q := Q) (a := a) ok hB hch hst hsw hs0 (by simpa using hh) (by simpa using ht) n _ u0 w.drew inv0 hc ((Fr.refl _ _).drew) (by rw [stage_none ws M0 _ (fun x _ => getD_replicate_false _ _)]; exact h0) (fun j hj hl => by rw [getD_replicate_false] at hl; cases hl)
 rw [show (l.toArray.toList.take n).map (·.dst) = (l.take n).map (·.dst) by simp, hu0, show n + (l.toArray.size - n) = l.toArray.size by have := ok.le; omega] at this
 exact this
theorem wpIn_round_st {r m : Nat} {P : Program} {id : Nat} {Q : Exit → Act → World → Prop} {a : Act} {w : World} {l : List Oper} (n : Nat) (T : Nat → Prop) (RL : List (Value → World → Prop)) (ws : List (Nat × (World → Prop))) (M0 : World → Prop) (B : Nat → Nat → Bool) (hd : (l.all noDefer) = true) (hm : P.follows .mixedOrders = true) (hg : growS l.toArray n = true)
  (hB : beforeB l.toArray n B = true) (hch : (chainP B (ws.map (·.1)) && (ws.map (·.1)).all (fun p => decide (p < n))) = true)
  (hst : StableL T w RL) (hsw : StableW T w ws) (hs0 : ∀ w' w'', Fr T w w' → Fr Nothing w' w'' → M0 w' → M0 w'') (h0 : M0 w.drew)
  (hh : headSt P l.toArray (fun e a w => Q e a w ∧ e = .normal) T w (fun u => puts ((l.take n).map (·.dst)) 0 u a) (factOf RL) ws M0 B n 0 (l.take n))
  (ht : ∀ u w', Fr T w w' → (∀ j, j < n → factOf RL j (u j) w') → lastW ws M0 w' → wpList P l.toArray (fun e a w => Q e a w ∧ e = .normal) (l.drop n) (puts ((l.take n).map (·.dst)) 0 u a) w') : (Code.region id l.toArray true).wpIn (Fence.wide.inRound r) m P Q a w :=
 wpIn_region_any hm (wpAnyIn_round (fun i o ho => List.all_eq_true.1 hd o (List.mem_of_getElem? (by simpa using ho))) _ _ _ _ (wpAny_st n T RL ws M0 B hg hB hch hst hsw hs0 h0 hh ht))
theorem wpList_store1 {P : Program} {ops : Array Oper} {rest : List Oper} {o : Oper} {a : Act} {w : World} {Q : Exit → Act → World → Prop} (hgd : o.guard = none) (ty : TypeId) (x y : Operand) (ho : o.op = .store ty x y)
  (g : Nat) (v : Value) (hx : a.eval x = .pointer (some ⟨g, 0, none⟩)) (hy : a.eval y = v) (h1 : v.oneCell' = true)
  (t : TypeId) (old : Value) (hg : Blk w g t #[old]) (hi : (P.info? ty).map (·.size) = some 1)
  (h : ∀ w', Blk w' g t #[v] → Fr (fun k => k = g) w w' → wpList P ops Q rest (a.put o.dst undef) w') : wpList P ops Q (o :: rest) a w := by
 subst hy
 exact wpList_store_one hgd ty x y ho g hx h1 t old hg hi (h _ (heap_setRow_same hg) ((Fr.refl (fun k => k = g) w).setRow (fun _ => rfl) _))
theorem own_block {w : World} {base : Nat} {e : TypeId} {size n k : Nat} {v : Value} {xs : List Value} (h : w.ownsRow base e size v n xs) (hk : v.ownBlock = some k) : ∃ c f, w.heap[k]? = some (.cells c e f) := by
 rcases h.2 with ⟨rfl, _⟩ | ⟨g', cap', cur, rfl, _, hh, _⟩
 ·simp [Value.ownBlock] at hk
 ·simp [Value.ownBlock] at hk
  subst hk
  exact ⟨_, _, hh⟩
def opLoads (t : TypeId) : Op → Bool
 | .load t' _ => t == t'
 | _ => false
theorem wpListIn_round1 {r n : Nat} {P : Program} {ops : Array Oper} {Q : Exit → Act → World → Prop} {o : Oper} {l : List Oper} {a : Act} {w : World} (f : Op → Bool) (_hf : f o.op = true) (hd : ((o :: l).all noDefer) = true) (h : wpList P ops (fun e a w => Q e a w ∧ e = .normal) (o :: l) a w) : wpListIn (Fence.wide.inRound r) n P ops Q (o :: l) a w :=
 wpListIn_round hd h
def Sz (w : World) (g : Nat) : Prop := w.heap.size ≤ g
structure RowI {α : Type} (w0 w3 : World) (g2 : Nat) (bt e : TypeId) (sz : Nat) (cnt : List α → Nat) (cells : List α → List Value) (pre : List α) (W : World) : Prop where
 fr : Fr Nothing w0 W
 kn : KN w3 W
 row : ∃ v, Blk W g2 bt #[v] ∧ W.ownsRow 0 e sz v (cnt pre) (cells pre) ∧ ∀ k, v.ownBlock = some k → w0.heap.size ≤ k ∧ k ≠ g2
theorem RowI.ownFrom {α : Type} {w0 w3 : World} {g2 : Nat} {bt e : TypeId} {sz B : Nat} {cnt : List α → Nat} {cells : List α → List Value} (h2 : g2 < B) (hB : w0.heap.size ≤ B) : OwnFrom B (RowI w0 w3 g2 bt e sz cnt cells) := by
 intro pre X Y row h hg hr
 have hrow : ∀ k, k < B → some k ≠ row := fun k hk e => by have := (hr k e.symm).1; omega
 have hf : Fr (fun k => some k = row) X Y := Fr.grown hg
 obtain ⟨v, b11, hown, hl⟩ := h.row
 refine ⟨h.fr.then_ hf (fun i hi e => absurd e (hrow i (by omega))), h.kn.trans (KN.fr hf (fun g cs hb e => ?_)), ⟨v, b11.fr hf (fun e => hrow _ h2 e), own_fr hown hf (fun k hk e => ?_), hl⟩⟩
 ·obtain ⟨_, o, ho, hc⟩ := hr g e.symm
  unfold Blk at hb
  rw [hb] at ho
  cases ho
  simp [Obj.isCells] at hc
 ·obtain ⟨_, o, ho, hc⟩ := hr k e.symm
  obtain ⟨c, f, ho'⟩ := own_block hown hk
  rw [ho'] at ho
  cases ho
  simp [Obj.isCells] at hc
theorem RowI.same {α : Type} {w0 w3 W X : World} {g2 : Nat} {bt e : TypeId} {sz : Nat} {cnt : List α → Nat} {cells : List α → List Value} {pre pre' : List α} (h : RowI w0 w3 g2 bt e sz cnt cells pre W) (hX : Fr Nothing W X) (h1 : cnt pre' = cnt pre) (h2 : cells pre' = cells pre) : RowI w0 w3 g2 bt e sz cnt cells pre' X := by
 obtain ⟨v, b11, hown, hl⟩ := h.row
 refine ⟨h.fr.trans hX, h.kn.trans (KN.fr hX (fun _ _ _ x => x)), ⟨v, b11.fr hX (fun x => x), ?_, hl⟩⟩
 rw [h1, h2]
 exact own_fr hown hX (fun _ _ x => x)
theorem RowI.step {α : Type} {w0 w3 W X X2 X3 : World} {g2 B : Nat} {bt e : TypeId} {sz : Nat} {cnt : List α → Nat} {cells : List α → List Value} {pre pre' : List α} {v v2 : Value}
  (hI : RowI w0 w3 g2 bt e sz cnt cells pre W) (_h2 : g2 < B) (_hB : w0.heap.size ≤ B) (hg2 : w0.heap.size ≤ g2) (hbt : bt ≠ 89) (he : e ≠ 89) (hb : Blk W g2 bt #[v])
  (hown : W.ownsRow 0 e sz v (cnt pre) (cells pre)) (hlies : ∀ k, v.ownBlock = some k → w0.heap.size ≤ k ∧ k ≠ g2)
  (hX : Fr Nothing W X) (hG : Grew e sz X v X2 v2 (cnt pre') (cells pre')) (f3 : Fr (fun k => k = g2) X2 X3) (b3 : Blk X3 g2 bt #[v2]) :
  KeepsFrom B W X3 ∧ KN W X3 ∧ RowI w0 w3 g2 bt e sz cnt cells pre' X3 := by
 have s1 : w0.heap.size ≤ W.heap.size := hI.fr.size
 have s2 : W.heap.size ≤ X.heap.size := hX.size
 have s3 : g2 < W.heap.size := hb.lt
 have hl2 : ∀ k, v2.ownBlock = some k → w0.heap.size ≤ k ∧ k ≠ g2 := fun k hk => by
  rcases hG.lies k hk with h | h
  ·exact hlies k h
  ·constructor <;> omega
 have F : Fr (fun k => k = g2 ∨ v.ownBlock = some k) W X3 := by
  have A1 : Fr (fun k => k = g2 ∨ v.ownBlock = some k) W X2 := (hX.weak).trans (hG.fr.mono (fun i _ h => .inr h))
  exact A1.trans (f3.mono (fun i _ h => .inl h))
 have K : KN W X3 := KN.fr F (fun g cs hn h => by
  unfold Blk at hn hb
  rcases h with rfl | h
  ·rw [hb] at hn
   cases hn
   exact hbt rfl
  ·obtain ⟨c, f, ho⟩ := own_block hown h
   rw [ho] at hn
   cases hn
   exact he rfl)
 refine ⟨⟨F.size, fun k o _ ho hc => ?_⟩, K, ?_, hI.kn.trans K, ?_⟩
 ·refine (F.block k (Array.getElem?_eq_some_iff.1 ho).1 ?_).trans ho
  rintro (rfl | h)
  ·omega
  ·obtain ⟨c, f, ho'⟩ := own_block hown h
   rw [ho] at ho'
   cases ho'
   simp [Obj.isCells] at hc
 ·refine hI.fr.then_ F (fun i hi h => ?_)
  rcases h with h | h
  ·omega
  ·have := (hlies i h).1
   omega
 ·exact ⟨v2, b3, own_fr hG.own f3 (fun k hk e => (hl2 k hk).2 e), hl2⟩
theorem KN.put (W : World) (l : Nat) (o o' : Obj) (h : W.heap[l]? = some o) (hc : o.isCells = false) : KN W (W.putObj l o') :=
 KN.fr (Fr.grown (grownBy_putObj' W l o')) (fun g cs hb e => by
  have e' : g = l := by simpa using e
  subst e'
  unfold Blk at hb
  rw [hb] at h
  cases h
  simp [Obj.isCells] at hc)
theorem nodes_any (a : Option Addr) (w : World) : Calls Tryd.prog 43 #[.pointer a] w fun r w' => r = .returned (.func (.func 72) #[] #[.pointer (some ⟨w.heap.size, 0, none⟩)]) ∧ Fr Nothing w w' ∧ Blk w' w.heap.size 24 #[.pointer a] := by
 go_enter Tryd.func43, Tryd.ntmps43
 go_wp2_with (refine wpList_boxBlk rfl 24 (.tmp 0) rfl #[.pointer a] rfl ?_)
 intro w1 n1
 have N1 := Lib.hid n1
 clear n1
 go_wp2
 go_ret
 exact ⟨rfl, N1.out.fr, N1.out.blk⟩
def ptrN (x : Nd) : Value := .pointer (some ⟨x.g, 0, none⟩)
theorem infoNdP : (Tryd.prog.info? 83).map (fun i => (i.zero, i.size, i.bytes)) = some (some (.pointer none), 1, 8) := by kernel_rfl
theorem infoNds : (Tryd.prog.info? 94).map (·.size) = some 1 := by kernel_rfl
theorem zvNds (w : World) : (zeroValue 94).run Tryd.prog w = .ok (.slice none 0 0) w := by kernel_rfl
end Go.Proofs.YtpnchdgplpdefaaDoor
