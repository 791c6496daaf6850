/- Several texts in one. -/
import Derived.Test.YtkaghbpdnmigmaaDoorLtR
import Derived.Test.YtkaghbpdnmigmaaDoorGwB
import Derived.RangeFuncNested
import Derived.RangeFuncBound
import Derived.RangeFuncLeaves
import Derived.Shelf.Abstract
import Derived.Shelf.RegionOpen
import Derived.WalkKit
import Derived.LoopNIn
import Derived.LoopIn
import Derived.Test.YtkaghbpdnmigmaaDoorLtU
import Derived.Test.YtkaghbpdnmigmaaDoorLtV
import Derived.Test.YtkaghbpdnmigmaaDoorLtP
/- The steps from a leaf up to the root, plainly; the program's climb and steps hand them over one by one. -/
namespace Go.Proofs.YtkaghbpdnmigmaaDoor
open Go.RowKit Go.Shelf

attribute [local go_sem] Oper.semAt_some

/-- The steps from a leaf up to the root of n leaves: whether the other part is the right one. -/
def stepsL (index n : Nat) : List Bool :=
  if _h : 2 ≤ n ∧ leftN n < n ∧ 1 ≤ leftN n then
    (if index < leftN n then stepsL index (leftN n) ++ [true] else stepsL (index - leftN n) (n - leftN n) ++ [false])
  else []
termination_by n
decreasing_by all_goals omega

theorem stepsL_one (index : Nat) : stepsL index 1 = [] := by rw [stepsL, dif_neg (by omega)]
theorem stepsL_left {index n : Nat} (h2 : 2 ≤ n) (hn : n ≤ 1099511627776) (h : index < leftN n) : stepsL index n = stepsL index (leftN n) ++ [true] := by
  obtain ⟨a, _, c⟩ := leftN_bounds n h2 hn
  rw [stepsL, dif_pos ⟨h2, a, c⟩, if_pos h]
theorem stepsL_right {index n : Nat} (h2 : 2 ≤ n) (hn : n ≤ 1099511627776) (h : ¬ index < leftN n) : stepsL index n = stepsL (index - leftN n) (n - leftN n) ++ [false] := by
  obtain ⟨a, _, c⟩ := leftN_bounds n h2 hn
  rw [stepsL, dif_pos ⟨h2, a, c⟩, if_neg h]
theorem stepsL_le (n : Nat) : ∀ index, n ≤ 1099511627776 → (stepsL index n).length ≤ n := by
  induction n using Nat.strongRecOn with
  | _ n ih =>
    intro index hn
    by_cases h2 : 2 ≤ n
    · obtain ⟨a, _, c⟩ := leftN_bounds n h2 hn
      by_cases h : index < leftN n
      · rw [stepsL_left h2 hn h, List.length_append]
        have := ih (leftN n) a index (by omega)
        simp; omega
      · rw [stepsL_right h2 hn h, List.length_append]
        have := ih (n - leftN n) (by omega) (index - leftN n) (by omega)
        simp; omega
    · rw [stepsL, dif_neg (by omega)]
      simp

theorem RoundIn.anyDepth {F : Fence} (hd : F.depth = none) {m m' : Nat} {P : Program} {l : Nat} {f : FuncId} {tmps : Array Value} {assign body : Code} {w : World} {R : Ending → World → Prop}
    (h : RoundIn F m P l f tmps assign body w R) : RoundIn F m' P l f tmps assign body w R := ⟨h.1, fun c cs _ => h.2 c cs (fun d h => by rw [hd] at h; cases h)⟩
theorem YieldAt.anyDepth {F : Fence} (hd : F.depth = none) {m : Nat} (m' : Nat) {P : Program} {l : Nat} {args : Array Value} {W : World} {R : Ending → World → Prop} (h : YieldAt F m P l args W R) : YieldAt F m' P l args W R := by
  obtain ⟨fn, tmps, assign, body, hy, hR⟩ := h
  exact ⟨fn, tmps, assign, body, hy, RoundIn.anyDepth hd hR⟩

def Climbed (J Jx : List Bool → World → Prop) (pre xs : List Bool) (e : Ending) (W' : World) : Prop :=
  (e = .returned (.bool true) ∧ J (pre ++ xs) W') ∨ (e = .returned (.bool false) ∧ ∃ q, q <+: xs ∧ Jx (pre ++ q) W')

set_option maxRecDepth 100000 in
set_option maxHeartbeats 2000000 in
theorem climb_in (l N : Nat) (J Jx : List Bool → World → Prop)
    (hY : ∀ m pre x W, J pre W → pre.length < N → YieldAt Fence.wide m Tryd.prog l #[.bool x] W fun e W' => (e = .returned (.bool true) ∧ J (pre ++ [x]) W') ∨ (e = .returned (.bool false) ∧ Jx (pre ++ [x]) W')) (n : Nat) :
    ∀ (m index : Nat) (pre : List Bool) (W : World), index < n → n ≤ 1048576 → J pre W → pre.length + (stepsL index n).length ≤ N →
      CallsIn Fence.wide m Tryd.prog 85 #[.int .i64 index, .int .i64 n, .func (.yield l) #[] #[]] W (Climbed J Jx pre (stepsL index n)) := by
  induction n using Nat.strongRecOn with
  | _ n ih =>
    intro m index pre W hin hn hJ hN
    have hdd : ∀ k : Nat, (Fence.wide.depth.isSome = true → 1 ≤ k) := fun k h => by cases h
    by_cases e : n = 1
    · subst e
      rw [stepsL_one]
      refine callsIn_of_wp Tryd.func85 rfl trivial ?_ rfl
      simp only [Tryd.ntmps85, List.size_toArray, List.length_cons, List.length_nil, Nat.reduceAdd, Nat.reduceSub, Array.replicate_succ, Array.replicate_zero, List.push_toArray, List.append_toArray, List.nil_append, List.cons_append]
      gi_wp2
      go_ret
      exact .inl ⟨rfl, by simpa using hJ⟩
    · obtain ⟨ka, _, kc⟩ := leftN_bounds n (by omega) (by omega)
      have CS := Lib.hid (fun w => leftSize_any n w (by omega) (by omega))
      have t1 : ((n : Int) == 1) = false := by rw [beq_eq_false_iff_ne]; omega
      by_cases hm : index < leftN n
      · have t2 : decide ((index : Int) < ((leftN n : Nat) : Int)) = true := decide_eq_true (by omega)
        have hE := stepsL_left (by omega) (by omega) hm
        rw [hE] at hN ⊢
        rw [List.length_append] at hN
        have hy2 : ∀ W1, J (pre ++ stepsL index (leftN n)) W1 → YieldAt Fence.wide (m - 1) Tryd.prog l #[.bool true] W1 fun e W2 =>
            (e = .returned (.bool true) ∧ J (pre ++ stepsL index (leftN n) ++ [true]) W2) ∨ (e = .returned (.bool false) ∧ Jx (pre ++ stepsL index (leftN n) ++ [true]) W2) := fun W1 hJ1 =>
          hY (m - 1) _ true W1 hJ1 (by simp at hN ⊢; omega)
        have ih1 := Lib.hid (fun W (hJ : J pre W) => (ih (leftN n) ka (m - 1) index pre W hm (by omega) hJ (by omega)).mono (R' := fun e W1 =>
            (e = .returned (.bool true) ∧ YieldAt Fence.wide (m - 1) Tryd.prog l #[.bool true] W1 fun e W2 =>
              (e = .returned (.bool true) ∧ J (pre ++ stepsL index (leftN n) ++ [true]) W2) ∨ (e = .returned (.bool false) ∧ Jx (pre ++ stepsL index (leftN n) ++ [true]) W2)) ∨
            (e = .returned (.bool false) ∧ ∃ q, q <+: stepsL index (leftN n) ∧ Jx (pre ++ q) W1))
          (fun e W1 h => h.elim (fun ⟨he, hj⟩ => .inl ⟨he, hy2 W1 hj⟩) .inr))
        clear hy2 ih hY hE hN
        generalize hS : stepsL index (leftN n) = S at *
        clear hS
        generalize leftN n = k at *
        refine callsIn_of_wp Tryd.func85 rfl trivial ?_ rfl
        simp only [Tryd.ntmps85, List.size_toArray, List.length_cons, List.length_nil, Nat.reduceAdd, Nat.reduceSub, Array.replicate_succ, Array.replicate_zero, List.push_toArray, List.append_toArray, List.nil_append, List.cons_append]
        gi_wp2_with (first
          | ((try refine ⟨trivial, hdd _, ?_⟩); gi_at_call 72; refine (callsIn_wide.2 (CS.out _)).mono ?_; clear CS; rintro e w1 ⟨rfl, rfl⟩)
          | ((try refine ⟨trivial, hdd _, ?_⟩); gi_at_call 85; refine (ih1.out _ hJ).mono ?_; clear ih1; rintro e W1 (⟨rfl, fn, tmps, assign, body, hy, hR⟩ | ⟨rfl, q, hq, hx1⟩))
          | ((try refine ⟨hdd _, ?_⟩); (try refine ⟨trivial, hdd _, ?_⟩); refine hR.mono ?_; clear hR; rintro e W2 (⟨rfl, hJ2⟩ | ⟨rfl, hx2⟩)))
        · go_ret
          exact .inl ⟨rfl, by simpa [List.append_assoc] using hJ2⟩
        · go_ret
          exact .inr ⟨rfl, S ++ [true], List.prefix_refl _, by simpa [List.append_assoc] using hx2⟩
        · refine ⟨fun _ h => (by cases h), ?_⟩
          gi_wp2
          go_ret
          exact .inr ⟨rfl, q, hq.trans (List.prefix_append _ _), hx1⟩
      · have t2 : decide ((index : Int) < ((leftN n : Nat) : Int)) = false := decide_eq_false (by omega)
        have hE := stepsL_right (by omega) (by omega) hm
        rw [hE] at hN ⊢
        rw [List.length_append] at hN
        have s1 : (index : Int) - ((leftN n : Nat) : Int) = ((index - leftN n : Nat) : Int) := by omega
        have s2 : (n : Int) - ((leftN n : Nat) : Int) = ((n - leftN n : Nat) : Int) := by omega
        have hy2 : ∀ W1, J (pre ++ stepsL (index - leftN n) (n - leftN n)) W1 → YieldAt Fence.wide (m - 1) Tryd.prog l #[.bool false] W1 fun e W2 =>
            (e = .returned (.bool true) ∧ J (pre ++ stepsL (index - leftN n) (n - leftN n) ++ [false]) W2) ∨ (e = .returned (.bool false) ∧ Jx (pre ++ stepsL (index - leftN n) (n - leftN n) ++ [false]) W2) := fun W1 hJ1 =>
          hY (m - 1) _ false W1 hJ1 (by simp at hN ⊢; omega)
        have ih1 := Lib.hid (fun W (hJ : J pre W) => (ih (n - leftN n) (by omega) (m - 1) (index - leftN n) pre W (by omega) (by omega) hJ (by omega)).mono (R' := fun e W1 =>
            (e = .returned (.bool true) ∧ YieldAt Fence.wide (m - 1) Tryd.prog l #[.bool false] W1 fun e W2 =>
              (e = .returned (.bool true) ∧ J (pre ++ stepsL (index - leftN n) (n - leftN n) ++ [false]) W2) ∨ (e = .returned (.bool false) ∧ Jx (pre ++ stepsL (index - leftN n) (n - leftN n) ++ [false]) W2)) ∨
            (e = .returned (.bool false) ∧ ∃ q, q <+: stepsL (index - leftN n) (n - leftN n) ∧ Jx (pre ++ q) W1))
          (fun e W1 h => h.elim (fun ⟨he, hj⟩ => .inl ⟨he, hy2 W1 hj⟩) .inr))
        clear hy2 ih hY hE hN
        generalize hS : stepsL (index - leftN n) (n - leftN n) = S at *
        clear hS
        have b1 : index - leftN n ≤ 1048576 := by omega
        have b2 : n - leftN n ≤ 1048576 := by omega
        generalize index - leftN n = i2 at *
        generalize n - leftN n = n2 at *
        generalize leftN n = k at *
        refine callsIn_of_wp Tryd.func85 rfl trivial ?_ rfl
        simp only [Tryd.ntmps85, List.size_toArray, List.length_cons, List.length_nil, Nat.reduceAdd, Nat.reduceSub, Array.replicate_succ, Array.replicate_zero, List.push_toArray, List.append_toArray, List.nil_append, List.cons_append]
        gi_wp2_with (first
          | ((try refine ⟨trivial, hdd _, ?_⟩); gi_at_call 72; refine (callsIn_wide.2 (CS.out _)).mono ?_; clear CS; rintro e w1 ⟨rfl, rfl⟩)
          | ((try refine ⟨trivial, hdd _, ?_⟩); gi_at_call 85; refine (ih1.out _ hJ).mono ?_; clear ih1; rintro e W1 (⟨rfl, fn, tmps, assign, body, hy, hR⟩ | ⟨rfl, q, hq, hx1⟩))
          | ((try refine ⟨hdd _, ?_⟩); (try refine ⟨trivial, hdd _, ?_⟩); refine hR.mono ?_; clear hR; rintro e W2 (⟨rfl, hJ2⟩ | ⟨rfl, hx2⟩)))
        · go_ret
          exact .inl ⟨rfl, by simpa [List.append_assoc] using hJ2⟩
        · go_ret
          exact .inr ⟨rfl, S ++ [false], List.prefix_refl _, by simpa [List.append_assoc] using hx2⟩
        · refine ⟨fun _ h => (by cases h), ?_⟩
          gi_wp2
          go_ret
          exact .inr ⟨rfl, q, hq.trans (List.prefix_append _ _), hx1⟩

set_option maxHeartbeats 1000000 in
theorem steps_stops (m Bi Bn index n : Nat) (w : World) (hi : Bi < w.heap.size) (hn : Bn < w.heap.size) (ci : w.cell? ⟨Bi, 0, none⟩ = some (.int .i64 index)) (cn : w.cell? ⟨Bn, 0, none⟩ = some (.int .i64 n)) (hin : index < n) (hn2 : n ≤ 1048576) :
    SeqStopsK Fence.wide m Tryd.prog 84 #[.pointer (some ⟨Bi, 0, none⟩), .pointer (some ⟨Bn, 0, none⟩)] (fun x : Bool => #[Value.bool x]) (fun _ _ => True) (fun ys => ys = stepsL index n) (fun pre => pre <+: stepsL index n) (stepsL index n).length w := by
  intro l J Jx W hW _ _ hY h0
  have hdd : ∀ k : Nat, (Fence.wide.depth.isSome = true → 1 ≤ k) := fun k h => by cases h
  have hp := climb_in l (stepsL index n).length J Jx (fun m pre x W hj hl => YieldAt.anyDepth rfl m (YieldAt.mono (hY pre x W hj hl) fun e W' h => h.elim (fun ⟨a, b, _⟩ => .inl ⟨a, b⟩) .inr)) n (m - 1) index [] W hin hn2 h0 (by simp)
  have c1 := (hW.cell (p := ⟨Bi, 0, none⟩) hi).trans ci
  have c2 := (hW.cell (p := ⟨Bn, 0, none⟩) hn).trans cn
  refine callsIn_of_wp Tryd.func84 rfl trivial ?_ rfl
  simp only [Tryd.ntmps84, List.size_toArray, List.length_cons, List.length_nil, Nat.reduceAdd, Nat.reduceSub, Array.replicate_succ, Array.replicate_zero, List.push_toArray, List.append_toArray, List.nil_append, List.cons_append]
  gi_wp2_with ((try refine ⟨trivial, hdd _, ?_⟩); gi_at_call 85; refine hp.mono ?_; clear hp; rintro e W1 (⟨rfl, hJ1⟩ | ⟨rfl, q, hq, hx⟩))
  · go_end0
    exact ⟨⟨_, rfl⟩, .inl ⟨_, rfl, by simpa using hJ1⟩⟩
  · go_end0
    exact ⟨⟨_, rfl⟩, .inr ⟨q, hq, by simpa using hx⟩⟩

theorem steps_any (index n : Int) (w : World) : Calls Tryd.prog 75 #[.int .i64 index, .int .i64 n] w fun e w' => e = .returned (.func (.func 84) #[] #[.pointer (some ⟨w.heap.size, 0, none⟩), .pointer (some ⟨w.heap.size + 1, 0, none⟩)]) ∧ w' = (w.alloc (.cells #[.int .i64 index] 3)).alloc (.cells #[.int .i64 n] 3) := by
  go_enter Tryd.func75, Tryd.ntmps75
  go_wp2
  go_ret
  exact ⟨rfl, rfl⟩
end Go.Proofs.YtkaghbpdnmigmaaDoor

/- The nodes from a leaf up to the root, plainly; a pair's digest. -/
namespace Go.Proofs.YtkaghbpdnmigmaaDoor
open Go.RowKit

/-- One step: the pair below a node, and the node. -/
def stepF (s : List UInt8 × List (List UInt8 × List UInt8)) (b : Bool) (d : List UInt8) : List UInt8 × List (List UInt8 × List UInt8) :=
  (nodeD (if b then s.1 else d) (if b then d else s.1), s.2 ++ [(if b then s.1 else d, if b then d else s.1)])
def runF (leaf : List UInt8) (pre : List Bool) (path : List (List UInt8)) : List UInt8 × List (List UInt8 × List UInt8) := (pre.zip path).foldl (fun s x => stepF s x.1 x.2) (leaf, [])
theorem runF_nil (leaf : List UInt8) (path : List (List UInt8)) : runF leaf [] path = (leaf, []) := rfl
theorem zip_snoc : ∀ (pre : List Bool) (path : List (List UInt8)) (b : Bool) (d : List UInt8), path[pre.length]? = some d → (pre ++ [b]).zip path = pre.zip path ++ [(b, d)]
  | [], d' :: path, b, d, h => by simp at h; simp [h]
  | [], [], b, d, h => by simp at h
  | x :: pre, [], b, d, h => by simp at h
  | x :: pre, y :: path, b, d, h => by
    have h' : path[pre.length]? = some d := by simpa using h
    simp [zip_snoc pre path b d h']
theorem runF_snoc (leaf : List UInt8) (pre : List Bool) (path : List (List UInt8)) (b : Bool) (d : List UInt8) (h : path[pre.length]? = some d) : runF leaf (pre ++ [b]) path = stepF (runF leaf pre path) b d := by
  unfold runF
  rw [zip_snoc pre path b d h, List.foldl_append]
  rfl

structure RunOk (s : List UInt8 × List (List UInt8 × List UInt8)) (n : Nat) : Prop where
  root : s.1.length = 32
  count : s.2.length = n
  each : ∀ p ∈ s.2, p.1.length = 32 ∧ p.2.length = 32
theorem RunOk.step {s : List UInt8 × List (List UInt8 × List UInt8)} {n : Nat} (h : RunOk s n) (b : Bool) (d : List UInt8) (hd : d.length = 32) : RunOk (stepF s b d) (n + 1) := by
  refine ⟨nodeD_length _ _, by simp [stepF, h.count], fun p hp => ?_⟩
  simp only [stepF, List.mem_append, List.mem_singleton] at hp
  rcases hp with hp | rfl
  · exact h.each p hp
  · cases b
    · exact ⟨hd, h.root⟩
    · exact ⟨h.root, hd⟩
theorem runF_ok (leaf : List UInt8) (hl : leaf.length = 32) (path : List (List UInt8)) (he : ∀ d ∈ path, d.length = 32) : ∀ (k : Nat) (pre : List Bool), pre.length = k → k ≤ path.length → RunOk (runF leaf pre path) k
  | 0, pre, h, _ => by
    obtain rfl := List.eq_nil_of_length_eq_zero h
    exact ⟨hl, rfl, fun p hp => by cases hp⟩
  | k + 1, pre, h, hk => by
    rcases List.eq_nil_or_concat pre with rfl | ⟨pr, b, rfl⟩
    · simp at h
    · rw [List.concat_eq_append] at h ⊢
      rw [List.length_append, List.length_singleton] at h
      have hlt : pr.length < path.length := by omega
      rw [runF_snoc leaf pr path b path[pr.length] (List.getElem?_eq_getElem hlt)]
      exact (runF_ok leaf hl path he k pr (by omega) (by omega)).step b _ (he _ (List.getElem_mem hlt))

def pairC (p : List UInt8 × List UInt8) : List Value := digC p.1 ++ digC p.2
theorem pairC_length {p : List UInt8 × List UInt8} (h : p.1.length = 32 ∧ p.2.length = 32) : (pairC p).length = 64 := by simp [pairC, digC, h.1, h.2]
theorem digC_one (d : List UInt8) : ∀ u ∈ digC d, u.oneCell' = true := fun u hu => oneCell_bvI d u hu
theorem pairC_one (p : List UInt8 × List UInt8) : ∀ u ∈ pairC p, u.oneCell' = true := fun u hu => by
  rcases List.mem_append.1 hu with h | h
  · exact digC_one _ u h
  · exact digC_one _ u h

/-- What nodes returns. -/
def nodesV (leaf : List UInt8) (index n : Int) (path : List (List UInt8)) : List UInt8 × List (List UInt8 × List UInt8) × Int :=
  if 1 ≤ n ∧ n ≤ 1048576 ∧ 0 ≤ index ∧ index < n then
    (if path.length = (stepsL index.toNat n.toNat).length then ((runF leaf (stepsL index.toNat n.toNat) path).1, (runF leaf (stepsL index.toNat n.toNat) path).2, 0) else (zeroL, [], 35))
  else (zeroL, [], 2)

theorem range_two {w : World} {g : Nat} {t : TypeId} {L R : List Value} (h : Blk w g t (L ++ R).toArray) (hl : L.length = 32) : w.rangeAt g 0 L ∧ w.rangeAt g 32 R := by
  refine ⟨fun j v hv => ?_, fun j v hv => ?_⟩
  · have hj := (List.getElem?_eq_some_iff.1 hv).1
    rw [Nat.zero_add, h.cell, List.getElem?_toArray, List.getElem?_append_left hj]
    exact hv
  · rw [h.cell, List.getElem?_toArray, List.getElem?_append_right (by omega), hl, show 32 + j - 32 = j by omega]
    exact hv

set_option maxRecDepth 100000 in
set_option maxHeartbeats 1000000 in
theorem digest_any (l r : List UInt8) (hl : l.length = 32) (hr : r.length = 32) (w : World) (hT : ShaTab w) : Calls Tryd.prog 76 #[.agg (digC l ++ digC r).toArray] w (Same' w (digV (nodeD l r))) := by
  have CN : Hid (∀ w', Fr Nothing w w' → Calls Tryd.prog 17 #[.agg (digC l).toArray, .agg (digC r).toArray] w' (Same' w' (.agg (digC (nodeD l r)).toArray))) := fun w' hf => Node_any l r hl hr w' (hT.fr0 hf)
  have D : Hid (Dig (digC (nodeD l r)).toArray) := Dig.of (nodeD_length l r)
  have L32 : Hid ((digC l).length = 32) := by simp [Hid, digC, hl]
  have HL : Hid ((Tryd.prog.info? 24).map (·.size) = some (digC l).length) := by rw [digC, List.length_map, hl]; exact infoD
  have HR : Hid ((Tryd.prog.info? 24).map (·.size) = some (digC r).length) := by rw [digC, List.length_map, hr]; exact infoD
  unfold digV
  change Calls _ _ _ _ (Same' w (.agg (digC (nodeD l r)).toArray))
  clear hT hl hr
  generalize digC (nodeD l r) = NV at *
  generalize digC l = LV at *
  generalize digC r = RV at *
  have ty := Tryd.underlying24
  go_enter Tryd.func76, Tryd.ntmps76
  go_wp2_with (refine wpList_boxBlk rfl 94 (.tmp 0) rfl _ rfl ?_)
  intro w1 n1
  have N1 := Lib.hid n1
  clear n1
  go_wp2_with (refine wpList_allocBlk rfl 24 rfl zero32 zvD zero32c rfl ?_)
  intro w2 n2
  have N2 := Lib.hid n2
  clear n2
  have B1 : Hid (Blk w2 w.heap.size 94 (LV ++ RV).toArray) := N1.out.blk.fr N2.out.fr (fun x => x)
  have F2 : Hid (Fr Nothing w w2) := N1.out.fr.trans N2.out.fr
  have HS : Hid (w.heap.size < w1.heap.size) := by have := N1.out.size; simp only [Hid]; omega
  obtain ⟨r0, r1⟩ := range_two B1.out L32.out
  generalize hg0 : w.heap.size = g0 at *
  go_wp2_with (first | (refine wpList_load_mid rfl 24 (.tmp 3) rfl g0 0 rfl LV _ r0 ty rfl HL.out ?_) | (refine wpList_load_mid rfl 24 (.tmp 5) rfl g0 32 rfl RV _ r1 ty rfl HR.out ?_) | fail)
  refine (CN.out _ F2.out).mono ?_
  rintro e w3 ⟨rfl, f3⟩
  have B3 := Lib.hid (N2.out.blk.fr f3 (fun x => x))
  have F3 := Lib.hid (F2.out.trans f3)
  have H0 := Lib.hid hg0
  clear f3 r0 r1 CN hg0
  go_wp2_with (refine wpList_storeBlk rfl 24 (.tmp 2) _ rfl w1.heap.size NV.toArray rfl rfl _ _ B3.out D.out.info D.out.zero D.out.one ?_)
  intro w4 b4 f4
  have J4 := Lib.hid b4
  have JF : Hid (Fr Nothing w w4) := F3.out.then_ f4 (fun i hi e => by have e' : i = w1.heap.size := e; have := HS.out; have := H0.out; omega)
  clear b4 f4
  go_wp2
  exact bodyPost_ret (results_cell_row (fn := Tryd.f76) (p := 2) (ty := 24) Tryd.results76 _ w4 _ 24 NV.toArray (0, 0) _ rfl J4.out Tryd.underlying24 rfl D.out.info) rfl ⟨rfl, JF.out⟩
end Go.Proofs.YtkaghbpdnmigmaaDoor

/- logtree.nodes. -/
namespace Go.Proofs.YtkaghbpdnmigmaaDoor
open Go.RowKit Go.Shelf

attribute [local go_sem] Oper.semAt_some

theorem wpList_store1 {P : Program} {ops : Array Oper} {rest : List Oper} {o : Oper} {a : Act} {w : World} {Q : Exit → Act → World → Prop} (hgd : o.guard = none) (ty : TypeId) (x y : Operand) (ho : o.op = .store ty x y)
    (g : Nat) (v : Value) (hx : a.eval x = .pointer (some ⟨g, 0, none⟩)) (hy : a.eval y = v) (h1 : v.oneCell' = true)
    (t : TypeId) (old : Value) (hg : Blk w g t #[old]) (hi : (P.info? ty).map (·.size) = some 1)
    (h : ∀ w', Blk w' g t #[v] → Fr (fun k => k = g) w w' → wpList P ops Q rest (a.put o.dst undef) w') : wpList P ops Q (o :: rest) a w := by
  subst hy
  exact wpList_store_one hgd ty x y ho g hx h1 t old hg hi (h _ (heap_setRow_same hg) ((Fr.refl (fun k => k = g) w).setRow (fun _ => rfl) _))

theorem run_loadVar_one {P : Program} (w : World) (g : Nat) (t ty : TypeId) (v : Value) (hg : Blk w g t #[v]) (_hi : (P.info? ty).map (·.size) = some 1) (ha : (isAgg ty).run P w = .ok false w) :
    (loadVar ty ⟨g, 0, none⟩).run P w = .ok v w := by
  have hc : w.cell? ⟨g, 0, none⟩ = some v := hg.cell 0
  simp [loadVar, ha, go_sem, hc]

theorem info82 : (Tryd.prog.info? 82).map (·.size) = some 1 := by kernel_rfl
theorem info26 : (Tryd.prog.info? 26).map (·.size) = some 1 := by kernel_rfl
theorem zv82 (w : World) : (zeroValue 82).run Tryd.prog w = .ok (.slice none 0 0) w := by kernel_rfl
theorem zv26 (w : World) : (zeroValue 26).run Tryd.prog w = .ok (.int .i64 0) w := by kernel_rfl
theorem isAgg82 (w : World) : (isAgg 82).run Tryd.prog w = .ok false w := by kernel_rfl
theorem isAgg26 (w : World) : (isAgg 26).run Tryd.prog w = .ok false w := by kernel_rfl

theorem results_nodes (tmps : Array Value) (w : World) (g8 g9 g10 : Nat) (cs : Array Value) (v : Value) (k : Int)
    (h8 : tmps.getD 8 undef = .pointer (some ⟨g8, 0, none⟩)) (h9 : tmps.getD 9 undef = .pointer (some ⟨g9, 0, none⟩)) (h10 : tmps.getD 10 undef = .pointer (some ⟨g10, 0, none⟩))
    (b8 : Blk w g8 24 cs) (hi : (Tryd.prog.info? 24).map (·.size) = some cs.size) (b9 : Blk w g9 82 #[v]) (b10 : Blk w g10 26 #[.int .i64 k]) :
    (results Tryd.f49 tmps).run Tryd.prog w = .ok (.tuple #[.agg cs, v, .int .i64 k]) w := by
  have h8' : tmps[8]?.getD undef = .pointer (some ⟨g8, 0, none⟩) := by simpa using h8
  have h9' : tmps[9]?.getD undef = .pointer (some ⟨g9, 0, none⟩) := by simpa using h9
  have h10' : tmps[10]?.getD undef = .pointer (some ⟨g10, 0, none⟩) := by simpa using h10
  simp [results, Tryd.results49, h8', h9', h10', asAddr, run_loadVar_row w g8 24 24 cs (0, 0) _ b8 Tryd.underlying24 rfl hi, run_loadVar_one w g9 _ _ v b9 info82 (isAgg82 w), run_loadVar_one w g10 _ _ _ b10 info26 (isAgg26 w)]

/-- What nodes returns, in memory. -/
def NodesD (w : World) (V : List UInt8 × List (List UInt8 × List UInt8) × Int) (e : Ending) (w' : World) : Prop :=
  ∃ v, e = .returned (.tuple #[digV V.1, v, .int .i64 V.2.2]) ∧ Grew 94 64 w (.slice none 0 0) w' v V.2.1.length (V.2.1.flatMap pairC)
theorem NodesD.none {w w' : World} {k : Int} (h : Fr Nothing w w') : NodesD w (zeroL, [], k) (.returned (.tuple #[digV zeroL, .slice none 0 0, .int .i64 k])) w' :=
  ⟨_, rfl, ⟨⟨rfl, .inl ⟨rfl, rfl⟩⟩, h.weak, fun _ hk => .inl hk⟩⟩

/-- The blocks with which the call begins. -/
structure NodB (w w' : World) (len : Nat) (A : Option Addr) (c : Nat) (LV : List Value) (g4 g7 g8 g9 g10 : Nat) : Prop where
  fr : Fr Nothing w w'
  b4 : Blk w' g4 24 LV.toArray
  b7 : Blk w' g7 29 #[.slice A len c]
  b8 : Blk w' g8 24 zero32c
  b9 : Blk w' g9 82 #[.slice none 0 0]
  b10 : Blk w' g10 26 #[.int .i64 0]
  o4 : w.heap.size ≤ g4
  o7 : g4 < g7
  o8 : g7 < g8
  o9 : g8 < g9
  o10 : g9 < g10
theorem NodB.later {w w' w'' : World} {len : Nat} {A : Option Addr} {c : Nat} {LV : List Value} {g4 g7 g8 g9 g10 : Nat} (h : NodB w w' len A c LV g4 g7 g8 g9 g10) (hf : Fr Nothing w' w'') : NodB w w'' len A c LV g4 g7 g8 g9 g10 :=
  ⟨h.fr.trans hf, h.b4.fr hf (fun x => x), h.b7.fr hf (fun x => x), h.b8.fr hf (fun x => x), h.b9.fr hf (fun x => x), h.b10.fr hf (fun x => x), h.o4, h.o7, h.o8, h.o9, h.o10⟩
theorem NodB.of {w w1 w2 w3 w4 w5 : World} {len : Nat} {A : Option Addr} {c : Nat} {LV : List Value} (h1 : NewBlk w w1 24 LV.toArray) (h2 : NewBlk w1 w2 29 #[.slice A len c]) (h3 : NewBlk w2 w3 24 zero32c) (h4 : NewBlk w3 w4 82 #[.slice none 0 0]) (h5 : NewBlk w4 w5 26 #[.int .i64 0]) :
    NodB w w5 len A c LV w.heap.size w1.heap.size w2.heap.size w3.heap.size w4.heap.size := by
  have e1 := h1.size
  have e2 := h2.size
  have e3 := h3.size
  have e4 := h4.size
  exact ⟨h1.fr.trans (h2.fr.trans (h3.fr.trans (h4.fr.trans h5.fr))), h1.blk.fr (h2.fr.trans (h3.fr.trans (h4.fr.trans h5.fr))) (fun x => x), h2.blk.fr (h3.fr.trans (h4.fr.trans h5.fr)) (fun x => x), h3.blk.fr (h4.fr.trans h5.fr) (fun x => x), h4.blk.fr h5.fr (fun x => x), h5.blk, Nat.le_refl _, by omega, by omega, by omega, by omega⟩

theorem own_block {w : World} {base : Nat} {e : TypeId} {size n k : Nat} {v : Value} {xs : List Value} (h : w.ownsRow base e size v n xs) (hk : v.ownBlock = some k) : ∃ o, w.heap[k]? = some o ∧ o.isCells = true := by
  rcases h.2 with ⟨rfl, _⟩ | ⟨g', cap', cur, rfl, _, hh, _⟩
  · simp [Value.ownBlock] at hk
  · simp [Value.ownBlock] at hk
    subst hk
    exact ⟨_, hh, rfl⟩

/-- Between two rounds. -/
structure NodI (w1 : World) (g11 g12 len : Nat) (leaf : List UInt8) (path : List (List UInt8)) (pre : List Bool) (W : World) : Prop where
  fr : Fr (fun k => k = g11 ∨ k = g12) w1 W
  le : pre.length ≤ len
  row : ∃ v, Blk W g11 82 #[v] ∧ W.ownsRow 0 94 64 v pre.length ((runF leaf pre path).2.flatMap pairC) ∧ ∀ k, v.ownBlock = some k → w1.heap.size ≤ k
  root : Blk W g12 24 (digC (runF leaf pre path).1).toArray
theorem NodI.ownFrom {w1 : World} {g11 g12 len : Nat} {leaf : List UInt8} {path : List (List UInt8)} (h11 : g11 < w1.heap.size) (h12 : g12 < w1.heap.size) : OwnFrom w1.heap.size (NodI w1 g11 g12 len leaf path) := by
  intro pre A B row h hg hr
  have hrow : ∀ k, k < w1.heap.size → some k ≠ row := fun k hk e => by have := (hr k e.symm).1; omega
  have hf : Fr (fun k => some k = row) A B := Fr.grown hg
  obtain ⟨v, b11, hown, hl⟩ := h.row
  refine ⟨h.fr.then_ hf (fun i hi e => absurd e (hrow i hi)), h.le, ⟨v, b11.fr hf (fun e => hrow _ h11 e), own_fr hown hf (fun k hk e => ?_), hl⟩, h.root.fr hf (fun e => hrow _ h12 e)⟩
  obtain ⟨_, o, ho, hc⟩ := hr k e.symm
  obtain ⟨o', ho', hc'⟩ := own_block hown hk
  rw [ho'] at ho
  cases ho
  rw [hc'] at hc
  cases hc

/-- A round has left the function: the proof is too short. -/
structure NodX (w1 : World) (g8 g9 g10 g11 g12 : Nat) (W : World) : Prop where
  fr : Fr (fun k => k = g8 ∨ k = g9 ∨ k = g10 ∨ k = g11 ∨ k = g12) w1 W
  b8 : Blk W g8 24 zero32c
  b9 : Blk W g9 82 #[.slice none 0 0]
  b10 : Blk W g10 26 #[.int .i64 35]
theorem NodX.ownFrom {w1 : World} {g8 g9 g10 g11 g12 : Nat} (h8 : g8 < w1.heap.size) (h9 : g9 < w1.heap.size) (h10 : g10 < w1.heap.size) (C : Prop) : OwnFrom w1.heap.size (fun (_ : List Bool) W => NodX w1 g8 g9 g10 g11 g12 W ∧ C) := by
  intro pre A B row ⟨h, hC⟩ hg hr
  have hrow : ∀ k, k < w1.heap.size → some k ≠ row := fun k hk e => by have := (hr k e.symm).1; omega
  have hf : Fr (fun k => some k = row) A B := Fr.grown hg
  exact ⟨⟨h.fr.then_ hf (fun i hi e => absurd e (hrow i hi)), h.b8.fr hf (fun e => hrow _ h8 e), h.b9.fr hf (fun e => hrow _ h9 e), h.b10.fr hf (fun e => hrow _ h10 e)⟩, hC⟩

set_option maxRecDepth 100000 in
set_option maxHeartbeats 1000000 in
theorem nodes_range (leaf : List UInt8) (_hl : leaf.length = 32) (index n : Int) (A : Option Addr) (len c : Nat) (w : World) (hr : ¬ (1 ≤ n ∧ n ≤ 1048576 ∧ 0 ≤ index ∧ index < n)) (bn : -9223372036854775808 ≤ n ∧ n ≤ 9223372036854775807) :
    Calls Tryd.prog 49 #[digV leaf, .int .i64 index, .int .i64 n, .slice A len c] w (NodesD w (zeroL, [], 2)) := by
  have C1 : Hid (∀ w', Calls Tryd.prog 52 #[.int .i64 n, .int .i64 1, .int .i64 1048576] w' (SameW w' (.bool (decide (1 ≤ n ∧ n ≤ 1048576))))) := fun w' => within_any n 1 1048576 w'
  have C2 : Hid (∀ w', Calls Tryd.prog 52 #[.int .i64 index, .int .i64 0, .int .i64 (n - 1)] w' (SameW w' (.bool (decide (0 ≤ index ∧ index ≤ n - 1))))) := fun w' => within_any index 0 (n - 1) w'
  have hb : decide (1 ≤ n ∧ n ≤ 1048576) = false ∨ (decide (1 ≤ n ∧ n ≤ 1048576) = true ∧ decide (0 ≤ index ∧ index ≤ n - 1) = false) := by
    by_cases h1 : 1 ≤ n ∧ n ≤ 1048576
    · exact .inr ⟨decide_eq_true h1, decide_eq_false (fun h => hr ⟨h1.1, h1.2, h.1, by omega⟩)⟩
    · exact .inl (decide_eq_false h1)
  have hsub : decide (1 ≤ n ∧ n ≤ 1048576) = true → IntKind.i64.wrap (n - 1) = n - 1 := fun h => IntWalk.i64_in _ (by have := of_decide_eq_true h; omega)
  have DZ : Hid (Dig (digC zeroL).toArray) := Dig.of zeroL_length
  have ZC : Hid ((digC zeroL).toArray = zero32c) := zeroL_cells
  have CZ : Hid (Tryd.prog.built 24 [] = some zero32c) := built24
  clear hr _hl
  have NN := Lib.hid (fun w' (h : Fr Nothing w w') => NodesD.none (k := 2) h)
  unfold digV at *
  simp only [show ∀ l : List UInt8, l.map bvI = digC l from fun _ => rfl] at *
  rw [ZC.out] at DZ NN
  generalize digC leaf = LV at *
  generalize decide (1 ≤ n ∧ n ≤ 1048576) = p1 at *
  generalize decide (0 ≤ index ∧ index ≤ n - 1) = p2 at *
  generalize hm : n - 1 = m at *
  rcases hb with rfl | ⟨rfl, rfl⟩
  · go_enter Tryd.func49, Tryd.ntmps49
    go_wp2_with (refine wpList_boxBlk rfl 24 (.tmp 0) rfl _ rfl ?_)
    intro w1 n1
    have N1 := Lib.hid n1
    clear n1
    go_wp2_with (refine wpList_boxBlk rfl 29 (.tmp 3) rfl _ rfl ?_)
    intro w2 n2
    have N2 := Lib.hid n2
    clear n2
    go_wp2_with (refine wpList_allocBlk rfl 24 rfl zero32 zvD zero32c rfl ?_)
    intro w3 n3
    have N3 := Lib.hid n3
    clear n3
    go_wp2_with (refine wpList_allocBlk rfl 82 rfl (.slice none 0 0) zv82 #[.slice none 0 0] rfl ?_)
    intro w4 n4
    have N4 := Lib.hid n4
    clear n4
    go_wp2_with (refine wpList_allocBlk rfl 26 rfl (.int .i64 0) zv26 #[.int .i64 0] rfl ?_)
    intro w5 n5
    have E5 := Lib.hid (NodB.of N1.out N2.out N3.out N4.out n5)
    clear n5 N1 N2 N3 N4
    generalize h0 : w.heap.size = g4 at *
    have H0 := Lib.hid h0
    clear h0
    generalize w1.heap.size = g7 at *
    generalize w2.heap.size = g8 at *
    generalize w3.heap.size = g9 at *
    generalize w4.heap.size = g10 at *
    go_wp2_with fail
    refine (C1.out _).mono ?_
    rintro e w' ⟨rfl, rfl⟩
    go_upto_region 2 with fail
    refine wp_region_lit ?_
    refine wpList_build0 rfl 24 rfl zero32c CZ.out ?_
    refine wpList_storeBlk rfl 24 (.tmp 8) _ rfl g8 zero32c rfl rfl _ _ E5.out.b8 DZ.out.info rfl DZ.out.one ?_
    intro x1 b1 f1
    refine wpList_store1 rfl 82 (.tmp 9) _ rfl g9 (.slice none 0 0) rfl rfl rfl _ _ (E5.out.b9.fr f1 (fun e => by have e' : g9 = g8 := e; have := E5.out.o9; omega)) info82 ?_
    intro x2 b2 f2
    refine wpList_store1 rfl 26 (.tmp 10) _ rfl g10 (.int .i64 2) rfl rfl rfl _ _ ((E5.out.b10.fr f1 (fun e => by have e' : g10 = g8 := e; have := E5.out.o9; have := E5.out.o10; omega)).fr f2 (fun e => by have e' : g10 = g9 := e; have := E5.out.o10; omega)) info26 ?_
    intro x3 b3 f3
    have J8 := Lib.hid ((b1.fr f2 (fun e => by have e' : g8 = g9 := e; have := E5.out.o9; omega)).fr f3 (fun e => by have e' : g8 = g10 := e; have := E5.out.o9; have := E5.out.o10; omega))
    have J9 := Lib.hid (b2.fr f3 (fun e => by have e' : g9 = g10 := e; have := E5.out.o10; omega))
    have J10 := Lib.hid b3
    have JF : Hid (Fr Nothing w x3) := ((E5.out.fr.then_ f1 (fun i hi e => by have e' : i = g8 := e; have := E5.out.o4; have := E5.out.o7; have := E5.out.o8; have := H0.out; omega)).then_ f2 (fun i hi e => by have e' : i = g9 := e; have := E5.out.o4; have := E5.out.o7; have := E5.out.o8; have := E5.out.o9; have := H0.out; omega)).then_ f3 (fun i hi e => by have e' : i = g10 := e; have := E5.out.o4; have := E5.out.o7; have := E5.out.o8; have := E5.out.o9; have := E5.out.o10; have := H0.out; omega)
    clear b1 b2 b3 f1 f2 f3
    go_wp2
    exact bodyPost_ret (results_nodes _ x3 g8 g9 g10 zero32c _ 2 rfl rfl rfl J8.out DZ.out.info J9.out J10.out) rfl (NN.out _ JF.out)
  · go_enter Tryd.func49, Tryd.ntmps49
    go_wp2_with (refine wpList_boxBlk rfl 24 (.tmp 0) rfl _ rfl ?_)
    intro w1 n1
    have N1 := Lib.hid n1
    clear n1
    go_wp2_with (refine wpList_boxBlk rfl 29 (.tmp 3) rfl _ rfl ?_)
    intro w2 n2
    have N2 := Lib.hid n2
    clear n2
    go_wp2_with (refine wpList_allocBlk rfl 24 rfl zero32 zvD zero32c rfl ?_)
    intro w3 n3
    have N3 := Lib.hid n3
    clear n3
    go_wp2_with (refine wpList_allocBlk rfl 82 rfl (.slice none 0 0) zv82 #[.slice none 0 0] rfl ?_)
    intro w4 n4
    have N4 := Lib.hid n4
    clear n4
    go_wp2_with (refine wpList_allocBlk rfl 26 rfl (.int .i64 0) zv26 #[.int .i64 0] rfl ?_)
    intro w5 n5
    have E5 := Lib.hid (NodB.of N1.out N2.out N3.out N4.out n5)
    clear n5 N1 N2 N3 N4
    generalize h0 : w.heap.size = g4 at *
    have H0 := Lib.hid h0
    clear h0
    generalize w1.heap.size = g7 at *
    generalize w2.heap.size = g8 at *
    generalize w3.heap.size = g9 at *
    generalize w4.heap.size = g10 at *
    go_wp2_with fail
    refine (C1.out _).mono ?_
    rintro e w' ⟨rfl, rfl⟩
    go_wp2_with fail
    refine (C2.out _).mono ?_
    rintro e w' ⟨rfl, rfl⟩
    go_upto_region 2 with fail
    refine wp_region_lit ?_
    refine wpList_build0 rfl 24 rfl zero32c CZ.out ?_
    refine wpList_storeBlk rfl 24 (.tmp 8) _ rfl g8 zero32c rfl rfl _ _ E5.out.b8 DZ.out.info rfl DZ.out.one ?_
    intro x1 b1 f1
    refine wpList_store1 rfl 82 (.tmp 9) _ rfl g9 (.slice none 0 0) rfl rfl rfl _ _ (E5.out.b9.fr f1 (fun e => by have e' : g9 = g8 := e; have := E5.out.o9; omega)) info82 ?_
    intro x2 b2 f2
    refine wpList_store1 rfl 26 (.tmp 10) _ rfl g10 (.int .i64 2) rfl rfl rfl _ _ ((E5.out.b10.fr f1 (fun e => by have e' : g10 = g8 := e; have := E5.out.o9; have := E5.out.o10; omega)).fr f2 (fun e => by have e' : g10 = g9 := e; have := E5.out.o10; omega)) info26 ?_
    intro x3 b3 f3
    have J8 := Lib.hid ((b1.fr f2 (fun e => by have e' : g8 = g9 := e; have := E5.out.o9; omega)).fr f3 (fun e => by have e' : g8 = g10 := e; have := E5.out.o9; have := E5.out.o10; omega))
    have J9 := Lib.hid (b2.fr f3 (fun e => by have e' : g9 = g10 := e; have := E5.out.o10; omega))
    have J10 := Lib.hid b3
    have JF : Hid (Fr Nothing w x3) := ((E5.out.fr.then_ f1 (fun i hi e => by have e' : i = g8 := e; have := E5.out.o4; have := E5.out.o7; have := E5.out.o8; have := H0.out; omega)).then_ f2 (fun i hi e => by have e' : i = g9 := e; have := E5.out.o4; have := E5.out.o7; have := E5.out.o8; have := E5.out.o9; have := H0.out; omega)).then_ f3 (fun i hi e => by have e' : i = g10 := e; have := E5.out.o4; have := E5.out.o7; have := E5.out.o8; have := E5.out.o9; have := E5.out.o10; have := H0.out; omega)
    clear b1 b2 b3 f1 f2 f3
    go_wp2
    exact bodyPost_ret (results_nodes _ x3 g8 g9 g10 zero32c _ 2 rfl rfl rfl J8.out DZ.out.info J9.out J10.out) rfl (NN.out _ JF.out)

/-! ### The main case -/
def zeroPair : Array Value := (digC zeroL ++ digC zeroL).toArray
theorem zvP (w : World) : (zeroValue 94).run Tryd.prog w = .ok (.agg zeroPair) w := by kernel_rfl
theorem infoP : (Tryd.prog.info? 94).map (fun i => (i.zero, i.size, i.bytes)) = some (some (.agg zeroPair), 64, 64) := by kernel_rfl
theorem infoPs : (Tryd.prog.info? 94).map (·.size) = some 64 := by kernel_rfl
theorem built_pair0 (parts : List (Nat × Value)) : Tryd.prog.built 94 parts = Instr.fill ((#[(0, 32), (32, 32)] : Array (Nat × Nat))[·]?) zeroPair parts := by kernel_rfl
theorem built_pair (X Y : List Value) (hx : X.length = 32) (hy : Y.length = 32) : Tryd.prog.built 94 [(0, .agg X.toArray), (1, .agg Y.toArray)] = some (X ++ Y).toArray := by
  have h := fill_two X.toArray Y.toArray zeroPair (by simpa using hx) (by simpa using hy) rfl
  rw [built_pair0]
  simp only [Instr.fill, Nat.zero_mul, Nat.one_mul] at h ⊢
  exact h
theorem fill_all (cs b : Array Value) (n : Nat) (hc : cs.size = n) (hb : b.size = n) : Instr.fill (fun i => some (i * n, n)) b [(0, .agg cs)] = some cs := by
  have hf := fold_arr cs b 0 (by omega)
  simp only [Instr.fill, Value.cells, hc, hb, Nat.zero_mul, Nat.zero_add, ne_eq, not_true_eq_false, decide_false, Bool.false_or, gt_iff_lt, Nat.lt_irrefl, Bool.false_eq_true, if_false]
  simp only [Nat.zero_add, List.take_zero, List.nil_append, hc] at hf
  rw [List.drop_of_length_le (by simp [hb]), List.append_nil] at hf
  rw [hf]

/-- One round, plainly. -/
theorem NodI.step {w1 W X X2 X3 X4 X5 : World} {g11 g12 len : Nat} {leaf d : List UInt8} {path : List (List UInt8)} {pre : List Bool} {v v2 : Value} {CV NV : List Value} (b : Bool)
    (hI : NodI w1 g11 g12 len leaf path pre W) (h11 : g11 < w1.heap.size) (h12 : g12 < w1.heap.size) (hne : g11 ≠ g12) (hk : pre.length < len) (hd : path[pre.length]? = some d)
    (hown : W.ownsRow 0 94 64 v pre.length ((runF leaf pre path).2.flatMap pairC)) (hlies : ∀ k, v.ownBlock = some k → w1.heap.size ≤ k)
    (hX : Fr Nothing W X) (hG : Grew 94 64 X v X2 v2 (pre.length + 1) ((runF leaf pre path).2.flatMap pairC ++ CV)) (f3 : Fr (fun k => k = g11) X2 X3) (b3 : Blk X3 g11 82 #[v2])
    (f4 : Fr Nothing X3 X4) (f5 : Fr (fun k => k = g12) X4 X5) (b5 : Blk X5 g12 24 NV.toArray)
    (hCV : CV = pairC (if b then (runF leaf pre path).1 else d, if b then d else (runF leaf pre path).1)) (hNV : NV = digC (nodeD (if b then (runF leaf pre path).1 else d) (if b then d else (runF leaf pre path).1))) :
    KeepsFrom w1.heap.size W X5 ∧ NodI w1 g11 g12 len leaf path (pre ++ [b]) X5 := by
  have s1 : w1.heap.size ≤ W.heap.size := hI.fr.size
  have s2 : W.heap.size ≤ X.heap.size := hX.size
  have hlt : ∀ k, v.ownBlock = some k → k < W.heap.size := fun k hk => by
    obtain ⟨o, ho, _⟩ := own_block hown hk
    exact (Array.getElem?_eq_some_iff.1 ho).1
  have hl2 : ∀ k, v2.ownBlock = some k → w1.heap.size ≤ k := fun k hk => by
    rcases hG.lies k hk with h | h
    · exact hlies k h
    · omega
  have F : Fr (fun k => k = g11 ∨ k = g12 ∨ v.ownBlock = some k) W X5 := by
    have A1 : Fr (fun k => k = g11 ∨ k = g12 ∨ v.ownBlock = some k) W X2 := (hX.weak).trans (hG.fr.mono (fun i _ h => .inr (.inr h)))
    have A2 := A1.trans (f3.mono (T' := fun k => k = g11 ∨ k = g12 ∨ v.ownBlock = some k) (fun i _ h => .inl h))
    exact (A2.trans f4.weak).trans (f5.mono (fun i _ h => .inr (.inl h)))
  refine ⟨⟨F.size, fun k o hB ho hc => ?_⟩, ?_, ?_, ?_, ?_⟩
  · refine (F.block k (Array.getElem?_eq_some_iff.1 ho).1 ?_).trans ho
    rintro (rfl | rfl | h)
    · omega
    · omega
    · obtain ⟨o', ho', hc'⟩ := own_block hown h
      rw [ho] at ho'
      cases ho'
      rw [hc] at hc'
      cases hc'
  · refine hI.fr.then_ F (fun i hi h => ?_)
    rcases h with h | h | h
    · exact .inl h
    · exact .inr h
    · have := hlies i h
      omega
  · rw [List.length_append, List.length_singleton]
    omega
  · refine ⟨v2, ((b3.fr f4 (fun x => x)).fr f5 hne), ?_, hl2⟩
    rw [List.length_append, List.length_singleton, runF_snoc leaf pre path b d hd]
    have e : (stepF (runF leaf pre path) b d).2.flatMap pairC = (runF leaf pre path).2.flatMap pairC ++ CV := by
      rw [stepF, List.flatMap_append, hCV]
      simp
    rw [e]
    refine own_fr (own_fr (own_fr hG.own f3 (fun k hk e => ?_)) f4 (fun _ _ x => x)) f5 (fun k hk e => ?_)
    · have e' : k = g11 := e
      have := hl2 k hk
      omega
    · have e' : k = g12 := e
      have := hl2 k hk
      omega
  · rw [runF_snoc leaf pre path b d hd]
    rw [hNV] at b5
    exact b5
end Go.Proofs.YtkaghbpdnmigmaaDoor

/- logtree.nodes: the main case (written by genN2.py). -/
namespace Go.Proofs.YtkaghbpdnmigmaaDoor
open Go.RowKit Go.Shelf

attribute [local go_sem] Oper.semAt_some

theorem NodB.keep {w w' w'' : World} {T : Nat → Prop} {len : Nat} {A : Option Addr} {c : Nat} {LV : List Value} {g4 g7 g8 g9 g10 : Nat} (h : NodB w w' len A c LV g4 g7 g8 g9 g10) (hf : Fr T w' w'') (hT : ∀ k, k ≤ g10 → ¬ T k) (hw : ∀ i, i < w.heap.size → ¬ T i) : NodB w w'' len A c LV g4 g7 g8 g9 g10 := by
  have := h.o7
  have := h.o8
  have := h.o9
  have := h.o10
  exact ⟨h.fr.then_ hf (fun i hi e => absurd e (hw i hi)), h.b4.fr hf (hT _ (by omega)), h.b7.fr hf (hT _ (by omega)), h.b8.fr hf (hT _ (by omega)), h.b9.fr hf (hT _ (by omega)), h.b10.fr hf (hT _ (by omega)), h.o4, h.o7, h.o8, h.o9, h.o10⟩
theorem keepsFrom_of {B : Nat} {T : Nat → Prop} {W W' : World} (h : Fr T W W') (hT : ∀ k, T k → k < B) : KeepsFrom B W W' :=
  ⟨h.size, fun k o hB ho _ => (h.block k (Array.getElem?_eq_some_iff.1 ho).1 (fun ht => by have := hT k ht; omega)).trans ho⟩

def opBuilds (t : TypeId) : Op → Bool
  | .build t' _ => t == t'
  | _ => false
def opLoads (t : TypeId) : Op → Bool
  | .load t' _ => t == t'
  | _ => false
theorem wpListIn_round1 {r n : Nat} {P : Program} {ops : Array Oper} {Q : Exit → Act → World → Prop} {o : Oper} {l : List Oper} {a : Act} {w : World} (f : Op → Bool) (_hf : f o.op = true) (hd : ((o :: l).all noDefer) = true) (h : wpList P ops (fun e a w => Q e a w ∧ e = .normal) (o :: l) a w) : wpListIn (Fence.wide.inRound r) n P ops Q (o :: l) a w :=
  wpListIn_round hd h

structure PairD (CV : List Value) : Prop where
  len : CV.length = 64
  one : ∀ u ∈ CV, u.oneCell' = true
theorem PairD.info {CV : List Value} (h : PairD CV) : (Tryd.prog.info? 94).map (·.size) = some CV.toArray.size := by
  rw [infoPs, List.size_toArray, h.len]
theorem PairD.infoL {CV : List Value} (h : PairD CV) : (Tryd.prog.info? 94).map (·.size) = some CV.length := by rw [infoPs, h.len]
theorem PairD.all {CV : List Value} (h : PairD CV) : CV.toArray.all (·.oneCell') = true := by
  rw [Array.all_eq_true_iff_forall_mem]
  intro u hu
  exact h.one u (by simpa using hu)
theorem PairD.of {a b : List UInt8} (ha : a.length = 32) (hb : b.length = 32) : PairD (digC a ++ digC b) := ⟨by simp [digC, ha, hb], fun u hu => pairC_one (a, b) u hu⟩

/-- The blocks of the round. -/
structure RndS (W X : World) (g14 : Nat) (CV : List Value) : Prop where
  fr : Fr Nothing W X
  b14 : Blk X g14 94 CV.toArray
  new : W.heap.size ≤ g14

set_option maxRecDepth 100000 in
set_option maxHeartbeats 4000000 in
theorem nodes_run (leaf : List UInt8) (hl : leaf.length = 32) (index n : Nat) (hin : index < n) (hn : n ≤ 1048576) (path : List (List UInt8)) (len : Nat) (A : Option Addr) (c : Nat) (S : Nat → Prop) (w : World) (hD : DigL w S A len path) (hcap : len ≤ 1048576) (hT : ShaTab w) :
    Calls Tryd.prog 49 #[digV leaf, .int .i64 index, .int .i64 n, .slice A len c] w (NodesD w (nodesV leaf index n path)) := by
  have C1 : Hid (∀ w', Calls Tryd.prog 52 #[.int .i64 n, .int .i64 1, .int .i64 1048576] w' (SameW w' (.bool true))) := by
    intro w'
    have h := within_any (n : Int) 1 1048576 w'
    rw [decide_eq_true (by omega)] at h
    exact h
  obtain ⟨m, hm⟩ : ∃ m : Nat, (n : Int) - 1 = (m : Int) := ⟨n - 1, by omega⟩
  have C2 : Hid (∀ w', Calls Tryd.prog 52 #[.int .i64 index, .int .i64 0, .int .i64 m] w' (SameW w' (.bool true))) := by
    intro w'
    have h := within_any (index : Int) 0 (m : Int) w'
    rw [decide_eq_true (by omega)] at h
    exact h
  have hm2 : m ≤ 1048576 := by omega
  have DZ : Hid (Dig (digC zeroL).toArray) := Dig.of zeroL_length
  have ZC : Hid ((digC zeroL).toArray = zero32c) := zeroL_cells
  have CZ : Hid (Tryd.prog.built 24 [] = some zero32c) := built24
  have DL : Hid (Dig (digC leaf).toArray) := Dig.of hl
  have HLV : Hid ((Tryd.prog.info? 24).map (·.size) = some (digC leaf).length) := by rw [digC, List.length_map, hl]; exact infoD
  have HD := Lib.hid hD
  have HT := Lib.hid hT
  have HL := Lib.hid hl
  have PL := Lib.hid hD.len
  have RO := Lib.hid (fun (pre : List Bool) (h : pre.length ≤ len) => runF_ok leaf hl path hD.each pre.length pre rfl (by rw [hD.len]; exact h))
  have NV := Lib.hid (show nodesV leaf index n path = (if path.length = (stepsL index n).length then ((runF leaf (stepsL index n) path).1, (runF leaf (stepsL index n) path).2, 0) else (zeroL, [], 35)) from by
    unfold nodesV
    rw [if_pos (by omega), Int.toNat_natCast, Int.toNat_natCast])
  have HIN := Lib.hid hin
  have HN := Lib.hid hn
  obtain ⟨i0, hi0, hz0, hz1, hz2⟩ := info_parts infoP
  clear hl hD hT
  rw [ZC.out] at DZ
  change Calls _ _ #[.agg (digC leaf).toArray, _, _, _] _ _
  have LE : Hid (digC leaf = digC leaf) := rfl
  generalize hLV : digC leaf = LV at *
  have LEQ := Lib.hid hLV
  clear hLV LE
  refine (callsIn_wide (n := 6)).1 (callsIn_of_wp_marks Tryd.func49 rfl trivial (wpIn_wide.2 ?_) rfl)
  simp only [Tryd.ntmps49, List.size_toArray, List.length_cons, List.length_nil, Nat.reduceAdd, Nat.reduceSub, Array.replicate_succ, Array.replicate_zero, List.push_toArray, List.append_toArray, List.nil_append, List.cons_append]
  go_wp2_with (refine wpList_boxBlk rfl 24 (.tmp 0) rfl _ rfl ?_)
  intro w1 n1
  have N1 := Lib.hid n1
  clear n1
  go_wp2_with (refine wpList_boxBlk rfl 29 (.tmp 3) rfl _ rfl ?_)
  intro w2 n2
  have N2 := Lib.hid n2
  clear n2
  go_wp2_with (refine wpList_allocBlk rfl 24 rfl zero32 zvD zero32c rfl ?_)
  intro w3 n3
  have N3 := Lib.hid n3
  clear n3
  go_wp2_with (refine wpList_allocBlk rfl 82 rfl (.slice none 0 0) zv82 #[.slice none 0 0] rfl ?_)
  intro w4 n4
  have N4 := Lib.hid n4
  clear n4
  go_wp2_with (refine wpList_allocBlk rfl 26 rfl (.int .i64 0) zv26 #[.int .i64 0] rfl ?_)
  intro w5 n5
  have E5 := Lib.hid (NodB.of N1.out N2.out N3.out N4.out n5)
  clear n5 N1 N2 N3 N4
  generalize h0 : w.heap.size = g4 at *
  have H0 := Lib.hid h0
  clear h0
  generalize w1.heap.size = g7 at *
  generalize w2.heap.size = g8 at *
  generalize w3.heap.size = g9 at *
  generalize w4.heap.size = g10 at *
  go_wp2_with fail
  refine (C1.out _).mono ?_
  rintro e w' ⟨rfl, rfl⟩
  go_wp2_with fail
  refine (C2.out _).mono ?_
  rintro e w' ⟨rfl, rfl⟩
  go_wp2_with (refine wpList_allocBlk rfl 82 rfl (.slice none 0 0) zv82 #[.slice none 0 0] rfl ?_)
  intro w6 n6
  have E6 := Lib.hid (E5.out.later n6.fr)
  have B11 := Lib.hid n6.blk
  have Z5 : Hid (g10 < w5.heap.size) := E5.out.b10.lt
  have S6 := Lib.hid n6.size
  clear n6 E5
  generalize w5.heap.size = g11 at *
  generalize hs6 : w6.heap.size = g12 at *
  have S6b := Lib.hid hs6
  clear hs6
  go_wp2_with (first | (refine wpList_loadBlk rfl 24 (.tmp 4) rfl g4 rfl _ LV E6.out.b4 _ Tryd.underlying24 rfl HLV.out ?_) | (refine wpList_allocBlk rfl 24 rfl zero32 zvD zero32c rfl ?_))
  intro w7 n7
  have B12 : Hid (Blk w7 g12 24 zero32c) := by
    have h := n7.blk
    rw [S6b.out] at h
    exact h
  have F7 := Lib.hid n7.fr
  have E7 := Lib.hid (E6.out.later n7.fr)
  clear n7
  rw [show w6.heap.size = g12 from S6b.out]
  go_wp2_with (refine wpList_storeBlk rfl 24 (.tmp 12) _ rfl g12 LV.toArray rfl rfl _ _ B12.out DL.out.info DL.out.zero DL.out.one ?_)
  intro w8 b8 f8
  have HNE : Hid (g10 < g11 ∧ g11 < g12) := ⟨Z5.out, by have := S6.out; omega⟩
  have E8 : Hid (NodB w w8 len A c LV g4 g7 g8 g9 g10) := E7.out.keep f8 (fun k hk e => by have e' : k = g12 := e; have := HNE.out; omega) (fun i hi e => by have e' : i = g12 := e; have := HNE.out; have := E7.out.o4; have := E7.out.o7; have := E7.out.o8; have := E7.out.o9; have := E7.out.o10; have := H0.out; omega)
  have B11_8 : Hid (Blk w8 g11 82 #[.slice none 0 0]) := (B11.out.fr F7.out (fun x => x)).fr f8 (fun e => by have e' : g11 = g12 := e; have := HNE.out; omega)
  have B12_8 := Lib.hid b8
  clear b8 f8 B11 B12 E6 E7 F7 S6 S6b Z5
  go_wp2_with fail
  refine (steps_any index n w8).mono ?_
  rintro e w9 ⟨rfl, hw9⟩
  have F9 : Hid (Fr Nothing w8 w9) := by subst hw9; exact ((Fr.refl _ _).alloc _).alloc _
  have CI : Hid (w9.cell? ⟨w8.heap.size, 0, none⟩ = some (.int .i64 index)) := by subst hw9; exact ((Blk.new w8 3 #[.int .i64 index]).alloc _).cell 0
  have CN : Hid (w9.cell? ⟨w8.heap.size + 1, 0, none⟩ = some (.int .i64 n)) := by
    subst hw9
    have h := (Blk.new (w8.alloc (.cells #[.int .i64 index] 3)) 3 #[.int .i64 n]).cell 0
    rw [show (w8.alloc (.cells #[.int .i64 index] 3)).heap.size = w8.heap.size + 1 by simp] at h
    exact h
  have S9 : Hid (w9.heap.size = w8.heap.size + 2) := by subst hw9; simp [Hid]
  clear hw9
  have E9 := Lib.hid (E8.out.later F9.out)
  have B11_9 := Lib.hid (B11_8.out.fr F9.out (fun x => x))
  have B12_9 := Lib.hid (B12_8.out.fr F9.out (fun x => x))
  have LT : Hid (g11 < w9.heap.size ∧ g12 < w9.heap.size) := ⟨B11_9.out.lt, B12_9.out.lt⟩
  clear E8 B11_8 B12_8 F9
  generalize w8.heap.size = gs at *
  go_wp2_with fail
  refine (wpIn_wide (n := 6)).1 ?_
  refine wpIn_rangeFunc_ownG rfl (by omega) (gf := 84) (lb := #[.pointer (some ⟨gs, 0, none⟩), .pointer (some ⟨gs + 1, 0, none⟩)]) rfl trivial (enters_of Tryd.func84 (by kernel_rfl) rfl)
    (steps_stops 5 gs (gs + 1) index n w9 (by have := S9.out; omega) (by have := S9.out; omega) CI.out CN.out HIN.out HN.out) (fun _ _ => trivial) (fun _ _ _ _ _ _ _ _ => trivial) (Below.refl _ _) (fun _ => rfl)
    (NodI w9 g11 g12 len leaf path) (fun cd _ W => NodX w9 g8 g9 g10 g11 g12 W ∧ (cd = .ret ∧ len < (stepsL index n).length))
    (NodI.ownFrom LT.out.1 LT.out.2) (fun cd => NodX.ownFrom (by have := E9.out.o9; have := E9.out.o10; have := HNE.out; have := LT.out; omega) (by have := E9.out.o10; have := HNE.out; have := LT.out; omega) (by have := HNE.out; have := LT.out; omega) (cd = .ret ∧ len < (stepsL index n).length))
    ⟨Fr.refl _ _, Nat.zero_le _, ⟨_, B11_9.out, ⟨rfl, .inl ⟨rfl, rfl⟩⟩, fun k hk => by simp [Value.ownBlock] at hk⟩, by rw [runF_nil]; rw [LEQ.out]; exact B12_9.out⟩ ?a1 ?assign ?body ?done ?stop
  case assign =>
    intro l x W K hK
    gi_wp2
    exact hK
  case body =>
    rintro l' pre x W hI hlt
    have HI := Lib.hid hI
    obtain ⟨hf, hle, ⟨v, b11, hrow, hlies⟩, b12⟩ := hI
    obtain ⟨A1, m1, c1, rfl, H1, H2⟩ := own_slice hrow
    have EW : Hid (NodB w W len A c LV g4 g7 g8 g9 g10) := E9.out.keep hf (fun k hk e => by have e' : k = g11 ∨ k = g12 := e; have := HNE.out; omega) (by rintro i hi (rfl | rfl) <;> (have := HNE.out; have := H0.out; have := E9.out.o4; have := E9.out.o7; have := E9.out.o8; have := E9.out.o9; have := E9.out.o10; omega))
    have HF := Lib.hid hf
    have B11 := Lib.hid b11
    have B12 := Lib.hid b12
    have HROW := Lib.hid hrow
    have HLI := Lib.hid hlies
    have HK := Lib.hid hle
    have HLTN := Lib.hid hlt
    have c11 := b11.cell 0
    have c7 := EW.out.b7.cell 0
    simp only [List.getElem?_toArray, List.getElem?_cons_zero] at c11 c7
    have RK := Lib.hid (RO.out pre hle)
    clear hf b11 b12 hrow hlies hlt hle CI CN S9
    by_cases hk : m1 = len
    · have t1 : ((m1 : Int) == (len : Int)) = true := by rw [beq_iff_eq]; omega
      gi_wp2_with (refine wpListIn_round1 (opBuilds 24) rfl (by kernel_rfl) ?_)
      refine wpList_build0 rfl 24 rfl zero32c CZ.out ?_
      refine wpList_storeBlk rfl 24 (.tmp 8) _ rfl g8 zero32c rfl rfl _ _ EW.out.b8 DZ.out.info rfl DZ.out.one ?_
      intro x1 b1 f1
      refine wpList_store1 rfl 82 (.tmp 9) _ rfl g9 (.slice none 0 0) rfl rfl rfl _ _ (EW.out.b9.fr f1 (fun e => by have e' : g9 = g8 := e; have := EW.out.o9; omega)) info82 ?_
      intro x2 b2 f2
      refine wpList_store1 rfl 26 (.tmp 10) _ rfl g10 (.int .i64 35) rfl rfl rfl _ _ ((EW.out.b10.fr f1 (fun e => by have e' : g10 = g8 := e; have := EW.out.o9; have := EW.out.o10; omega)).fr f2 (fun e => by have e' : g10 = g9 := e; have := EW.out.o10; omega)) info26 ?_
      intro x3 b3 f3
      have J8 := Lib.hid ((b1.fr f2 (fun e => by have e' : g8 = g9 := e; have := EW.out.o9; omega)).fr f3 (fun e => by have e' : g8 = g10 := e; have := EW.out.o9; have := EW.out.o10; omega))
      have J9 := Lib.hid (b2.fr f3 (fun e => by have e' : g9 = g10 := e; have := EW.out.o10; omega))
      have J10 := Lib.hid b3
      refine ⟨?_, rfl⟩
      have KF : Hid (KeepsFrom w9.heap.size W x3) := keepsFrom_of (T := fun k => k = g8 ∨ k = g9 ∨ k = g10) (((f1.mono (fun i _ e => .inl e)).trans (f2.mono (fun i _ e => .inr (.inl e)))).trans (f3.mono (fun i _ e => .inr (.inr e)))) (by rintro k (rfl | rfl | rfl) <;> (have := EW.out.o9; have := EW.out.o10; have := HNE.out; have := LT.out; omega))
      have FX : Hid (Fr (fun k => k = g8 ∨ k = g9 ∨ k = g10 ∨ k = g11 ∨ k = g12) w9 x3) := (((HF.out.mono (T' := fun k => k = g8 ∨ k = g9 ∨ k = g10 ∨ k = g11 ∨ k = g12) (fun i _ e => .inr (.inr (.inr e)))).trans (f1.mono (fun i _ e => .inl e))).trans (f2.mono (fun i _ e => .inr (.inl e)))).trans (f3.mono (fun i _ e => .inr (.inr (.inl e))))
      clear b1 b2 b3 f1 f2 f3
      gi_wp2
      exact ⟨KF.out, ⟨FX.out, J8.out, J9.out, J10.out⟩, rfl, by have := HLTN.out; have := H1.out; omega⟩
    · have hk2 : m1 < len := by have := HK.out; have := H1.out; omega
      have t1 : ((m1 : Int) == (len : Int)) = false := by rw [beq_eq_false_iff_ne]; omega
      have hI2 : (m1 : Int) < (len : Int) := by omega
      obtain ⟨ad, d, rfl, _, hd, hd32, hcell⟩ := (HD.out.fr0 EW.out.fr).at_ hk2
      have HC := Lib.hid hcell
      have HPD := Lib.hid hd
      have hr32 := RK.out.root
      have HPV : Hid ((Tryd.prog.info? 24).map (·.size) = some (digC d).length) := by rw [digC, List.length_map, hd32]; exact infoD
      have HRV : Hid ((Tryd.prog.info? 24).map (·.size) = some (digC (runF leaf pre path).1).length) := by rw [digC, List.length_map, hr32]; exact infoD
      have HB1 : Hid (Tryd.prog.built 94 [(0, .agg (digC d).toArray), (1, .agg (digC (runF leaf pre path).1).toArray)] = some (digC d ++ digC (runF leaf pre path).1).toArray) := built_pair _ _ (by simp [digC, hd32]) (by simp [digC, hr32])
      have HB2 : Hid (Tryd.prog.built 94 [(0, .agg (digC (runF leaf pre path).1).toArray), (1, .agg (digC d).toArray)] = some (digC (runF leaf pre path).1 ++ digC d).toArray) := built_pair _ _ (by simp [digC, hr32]) (by simp [digC, hd32])
      have PD1 : Hid (PairD (digC d ++ digC (runF leaf pre path).1)) := PairD.of hd32 hr32
      have PD2 : Hid (PairD (digC (runF leaf pre path).1 ++ digC d)) := PairD.of hr32 hd32
      have DR : Hid (Dig (digC (runF leaf pre path).1).toArray) := Dig.of hr32
      have DN1 : Hid (Dig (digC (nodeD d (runF leaf pre path).1)).toArray) := Dig.of (nodeD_length _ _)
      have DN2 : Hid (Dig (digC (nodeD (runF leaf pre path).1 d)).toArray) := Dig.of (nodeD_length _ _)
      have CD1 : Hid (∀ w', Fr Nothing w w' → Calls Tryd.prog 76 #[.agg (digC d ++ digC (runF leaf pre path).1).toArray] w' (Same' w' (.agg (digC (nodeD d (runF leaf pre path).1)).toArray))) := fun w' hf => digest_any _ _ hd32 hr32 w' (HT.out.fr0 hf)
      have CD2 : Hid (∀ w', Fr Nothing w w' → Calls Tryd.prog 76 #[.agg (digC (runF leaf pre path).1 ++ digC d).toArray] w' (Same' w' (.agg (digC (nodeD (runF leaf pre path).1 d)).toArray))) := fun w' hf => digest_any _ _ hr32 hd32 w' (HT.out.fr0 hf)
      have g1 : Hid (¬ 1 * i0.size > 2 ^ 24) := by simp only [Hid]; rw [hz1]; omega
      have g2 : Hid (¬ 1 * i0.size = 0) := by simp only [Hid]; rw [hz1]; omega
      generalize hPV : digC d = PV at *
      generalize hRV : digC (runF leaf pre path).1 = RV at *
      generalize hN1 : digC (nodeD d (runF leaf pre path).1) = NV1 at *
      generalize hN2 : digC (nodeD (runF leaf pre path).1 d) = NV2 at *
      have EPV := Lib.hid hPV
      have ERV := Lib.hid hRV
      have EN1 := Lib.hid hN1
      have EN2 := Lib.hid hN2
      clear hPV hRV hN1 hN2 hcell hd hd32 hr32
      gi_wp2
      refine wpIn_round_new 8 94 [fun v => v = .slice (some ad) len c, fun v => v = .slice A1 m1 c1, fun v => v = .int .i64 m1, fun v => v = .pointer (some (ad.add (m1 * 32))), fun v => v = .agg PV.toArray, fun v => v = .agg RV.toArray, fun v => v = .agg (PV ++ RV).toArray, fun _ => True] [] [(7, zeroPair)] [] (by kernel_rfl) (by kernel_rfl) (by kernel_rfl) (by kernel_rfl) trivial ?_ ?_
      · refine ⟨fun u w' hf hR hW => ?_, fun u w' hf hR hW => ?_, fun u w' hf hR hW => ?_, fun u w' hf hR hW => ?_, fun u w' hf hR hW => ?_, fun u w' hf hR hW => ?_, fun u w' hf hR hW => ?_, fun u w' hf hR => ?_, trivial⟩
        all_goals simp only [List.take_succ_cons, List.take_zero, List.map_cons, List.map_nil, puts, Act.put, List.setIfInBounds_toArray, List.set_cons_zero, List.set_cons_succ, Nat.reduceAdd, Nat.zero_add]
        · clear hR hW
          refine .inl ⟨by kernel_rfl, ?_⟩
          have q := hf.cellSome c7 (fun x => x)
          go_simp
          exact ⟨_, rfl, rfl, trivial, Fr.refl _ _⟩
        · clear hR hW
          refine .inl ⟨by kernel_rfl, ?_⟩
          have q := hf.cellSome c11 (fun x => x)
          go_simp
          exact ⟨_, rfl, rfl, trivial, Fr.refl _ _⟩
        · have h1 : u 1 = _ := hR 1 (by kernel_rfl)
          clear hR hW
          simp only [h1]
          refine .inl ⟨by kernel_rfl, ?_⟩
          go_simp
          exact ⟨_, rfl, rfl, trivial, Fr.refl _ _⟩
        · have h0 : u 0 = _ := hR 0 (by kernel_rfl)
          have h2 : u 2 = _ := hR 2 (by kernel_rfl)
          clear hR hW
          simp only [h0, h2]
          refine .inl ⟨by kernel_rfl, ?_⟩
          go_simp
          exact ⟨_, rfl, rfl, trivial, Fr.refl _ _⟩
        · have h3 : u 3 = _ := hR 3 (by kernel_rfl)
          clear hR hW
          simp only [h3]
          refine .inl ⟨by kernel_rfl, ?_⟩
          exact wp_load_add _ _ rfl (ad.add (m1 * 32)) rfl PV _ (fun j v hv => hf.cellSome (HC.out j v hv) (fun x => x)) Tryd.underlying24 rfl HPV.out ⟨_, rfl, rfl, trivial, Fr.refl _ _⟩
        · clear hR hW
          refine .inl ⟨by kernel_rfl, ?_⟩
          exact wp_load_mid _ _ rfl g12 0 rfl RV _ (range_blk (B12.out.fr hf (fun x => x))) Tryd.underlying24 rfl HRV.out ⟨_, rfl, rfl, trivial, Fr.refl _ _⟩
        · have h4 : u 4 = _ := hR 4 (by kernel_rfl)
          have h5 : u 5 = _ := hR 5 (by kernel_rfl)
          clear hR hW
          simp only [h4, h5]
          refine .inl ⟨by kernel_rfl, ?_⟩
          exact wp_buildTo 94 #[(0, .tmp 41), (1, .tmp 42)] rfl _ (by simp only [List.map_toArray, List.map_cons, List.map_nil]; exact HB1.out) ⟨_, rfl, rfl, trivial, Fr.refl _ _⟩
        · clear hR
          refine .inl ⟨by kernel_rfl, ?_⟩
          refine wp_allocBlk 94 rfl (.agg zeroPair) zvP zeroPair rfl ?_
          intro w4 n4
          exact ⟨_, rfl, trivial, trivial, rfl, n4⟩
      · intro u w' hf hR hN hA
        have h6 : u 6 = _ := hR 6 (by omega)
        obtain ⟨g14, h7, l14, b14⟩ := hN 7 zeroPair (by simp)
        have b14' : Blk w' g14 94 zeroPair := b14
        clear hR hN hA b14
        simp only [List.take_succ_cons, List.take_zero, List.map_cons, List.map_nil, puts, Act.put, List.setIfInBounds_toArray, List.set_cons_zero, List.set_cons_succ, List.drop_succ_cons, List.drop_zero, Nat.reduceAdd, Nat.zero_add, h6, h7]
        refine wpList_storeBlk rfl 94 (.tmp 14) _ rfl g14 (PV ++ RV).toArray rfl rfl _ _ b14' PD1.out.info (by rw [show zeroPair.size = 64 from rfl, List.size_toArray, PD1.out.len]) PD1.out.all ?_
        intro wa ba fa
        have RA : Hid (RndS W wa g14 (PV ++ RV)) := ⟨hf.then_ fa (fun i hi e => by have e' : i = g14 := e; omega), ba, l14⟩
        clear hf ba fa b14' l14 h6 h7
        refine ⟨?_, rfl⟩
        cases x
        · have c11x := (B11.out.fr RA.out.fr (fun x => x)).cell 0
          simp only [List.getElem?_toArray, List.getElem?_cons_zero] at c11x
          gi_wp2_with (refine wpListIn_round1 (opLoads 94) rfl (by kernel_rfl) ?_)
          refine wpList_loadBlk rfl 94 (.tmp 14) rfl g14 rfl _ (PV ++ RV) RA.out.b14 _ Tryd.underlying94 rfl PD1.out.infoL ?_
          refine wpList_buildSlice rfl 82 94 1 #[(0, .tmp 53)] rfl (PV ++ RV).toArray i0 (.agg zeroPair) Tryd.underlying82 hi0 hz0 g1.out g2.out ?b3 ?_
          case b3 =>
            simp only [List.map_toArray, List.map_cons, List.map_nil]
            rw [hz1]
            exact fill_all _ _ 64 (by rw [List.size_toArray, PD1.out.len]) (by simp)
          refine wpList_app1 _ rfl _ _ 82 rfl 94 i0 (.agg zeroPair) 64 64 Tryd.underlying82 hi0 hz0 hz1 hz2 rfl (by omega) _ _ _ rfl (own_fr HROW.out RA.out.fr (fun _ _ x => x)) 1 (PV ++ RV).toArray _ rfl rfl (by rw [List.size_toArray, PD1.out.len]) (fun u hu => PD1.out.one u (by simpa using hu)) (by have := HK.out; omega) (by omega) ?_
          intro v2 y2 hG
          have KG := Lib.hid hG
          obtain ⟨A2, m2, c2, rfl, _, _⟩ := own_slice hG.own
          clear hG
          have NB : Hid (∀ k, (Value.slice A1 m1 c1).ownBlock = some k → w9.heap.size ≤ k ∧ k < W.heap.size) := fun k hk => ⟨HLI.out k hk, by
            obtain ⟨o, ho, _⟩ := own_block HROW.out hk
            exact (Array.getElem?_eq_some_iff.1 ho).1⟩
          have B11y : Hid (Blk y2 g11 82 #[.slice A1 m1 c1]) := (B11.out.fr RA.out.fr (fun x => x)).fr KG.out.fr (fun e => by have := (NB.out _ e).1; have := LT.out; omega)
          refine wpList_store1 rfl 82 (.tmp 11) _ rfl g11 (.slice A2 m2 c2) rfl rfl rfl _ _ B11y.out info82 ?_
          intro y3 b3 f3
          have FY : Hid (Fr Nothing w y3) := (((EW.out.fr.trans RA.out.fr).then_ KG.out.fr (fun i hi e => by have := (NB.out _ e).1; have := (E9.out.fr.size); omega)).then_ f3 (fun i hi e => by have e' : i = g11 := e; have := HNE.out; have := E9.out.o4; have := E9.out.o7; have := E9.out.o8; have := E9.out.o9; have := E9.out.o10; have := H0.out; omega))
          have G14 : Hid (w9.heap.size ≤ g14) := Nat.le_trans HF.out.size RA.out.new
          have B14y : Hid (Blk y3 g14 94 (PV ++ RV).toArray) := (RA.out.b14.fr KG.out.fr (fun e => by have := (NB.out _ e).2; have := RA.out.new; omega)).fr f3 (fun e => by have e' : g14 = g11 := e; have := G14.out; have := LT.out; omega)
          have B12y : Hid (Blk y3 g12 24 RV.toArray) := ((B12.out.fr RA.out.fr (fun x => x)).fr KG.out.fr (fun e => by have := (NB.out _ e).1; have := LT.out; omega)).fr f3 (fun e => by have e' : g12 = g11 := e; have := HNE.out; omega)
          have B3 := Lib.hid b3
          have F3 := Lib.hid f3
          clear b3 f3 c11x
          refine ⟨?_, rfl⟩
          gi_wp2_with (refine wpListIn_round1 (opLoads 94) rfl (by kernel_rfl) ?_)
          refine wpList_loadBlk rfl 94 (.tmp 14) rfl g14 rfl _ (PV ++ RV) B14y.out _ Tryd.underlying94 rfl PD1.out.infoL ?_
          go_wp2_with fail
          refine (CD1.out _ FY.out).mono ?_
          rintro e y4 ⟨rfl, f4⟩
          have B12z := Lib.hid (B12y.out.fr f4 (fun x => x))
          have F4 := Lib.hid f4
          clear f4
          go_wp2_with (refine wpList_storeBlk rfl 24 (.tmp 12) _ rfl g12 NV1.toArray rfl rfl _ _ B12z.out DN1.out.info (DR.out.size.trans DN1.out.size.symm) DN1.out.one ?_)
          intro y5 b5 f5
          refine ⟨?_, rfl⟩
          have KEY := NodI.step (NV := NV1) false HI.out LT.out.1 LT.out.2 (by have := HNE.out; omega) (by have := H1.out; omega) (by have := H1.out; rw [← this]; exact HPD.out) HROW.out HLI.out RA.out.fr KG.out F3.out B3.out F4.out f5 b5 (by rw [← EPV.out, ← ERV.out]; rfl) (EN1.out.symm)
          exact ⟨KEY.1, trivial, KEY.2⟩
        · gi_wp2
          refine wpIn_round_new 7 94 [fun v => v = .agg RV.toArray, fun v => v = .slice (some ad) len c, fun v => v = .slice A1 m1 c1, fun v => v = .int .i64 m1, fun v => v = .pointer (some (ad.add (m1 * 32))), fun v => v = .agg PV.toArray, fun v => v = .agg (RV ++ PV).toArray] [] [] [] (by kernel_rfl) (by kernel_rfl) (by kernel_rfl) (by kernel_rfl) trivial ?_ ?_
          · refine ⟨fun u w' hf hR hW => ?_, fun u w' hf hR hW => ?_, fun u w' hf hR hW => ?_, fun u w' hf hR hW => ?_, fun u w' hf hR hW => ?_, fun u w' hf hR hW => ?_, fun u w' hf hR hW => ?_, trivial⟩
            all_goals simp only [List.take_succ_cons, List.take_zero, List.map_cons, List.map_nil, puts, Act.put, List.setIfInBounds_toArray, List.set_cons_zero, List.set_cons_succ, Nat.reduceAdd, Nat.zero_add]
            · clear hR hW
              refine .inl ⟨by kernel_rfl, ?_⟩
              exact wp_load_mid _ _ rfl g12 0 rfl RV _ (range_blk (B12.out.fr (RA.out.fr.trans hf) (fun x => x))) Tryd.underlying24 rfl HRV.out ⟨_, rfl, rfl, trivial, Fr.refl _ _⟩
            · clear hR hW
              refine .inl ⟨by kernel_rfl, ?_⟩
              have q := (RA.out.fr.trans hf).cellSome c7 (fun x => x)
              go_simp
              exact ⟨_, rfl, rfl, trivial, Fr.refl _ _⟩
            · clear hR hW
              refine .inl ⟨by kernel_rfl, ?_⟩
              have q := (RA.out.fr.trans hf).cellSome c11 (fun x => x)
              go_simp
              exact ⟨_, rfl, rfl, trivial, Fr.refl _ _⟩
            · have h2 : u 2 = _ := hR 2 (by kernel_rfl)
              clear hR hW
              simp only [h2]
              refine .inl ⟨by kernel_rfl, ?_⟩
              go_simp
              exact ⟨_, rfl, rfl, trivial, Fr.refl _ _⟩
            · have h1 : u 1 = _ := hR 1 (by kernel_rfl)
              have h3 : u 3 = _ := hR 3 (by kernel_rfl)
              clear hR hW
              simp only [h1, h3]
              refine .inl ⟨by kernel_rfl, ?_⟩
              go_simp
              exact ⟨_, rfl, rfl, trivial, Fr.refl _ _⟩
            · have h4 : u 4 = _ := hR 4 (by kernel_rfl)
              clear hR hW
              simp only [h4]
              refine .inl ⟨by kernel_rfl, ?_⟩
              exact wp_load_add _ _ rfl (ad.add (m1 * 32)) rfl PV _ (fun j v hv => (RA.out.fr.trans hf).cellSome (HC.out j v hv) (fun x => x)) Tryd.underlying24 rfl HPV.out ⟨_, rfl, rfl, trivial, Fr.refl _ _⟩
            · have h0 : u 0 = _ := hR 0 (by kernel_rfl)
              have h5 : u 5 = _ := hR 5 (by kernel_rfl)
              clear hR hW
              simp only [h0, h5]
              refine .inl ⟨by kernel_rfl, ?_⟩
              exact wp_buildTo 94 #[(0, .tmp 45), (1, .tmp 50)] rfl _ (by simp only [List.map_toArray, List.map_cons, List.map_nil]; exact HB2.out) ⟨_, rfl, rfl, trivial, Fr.refl _ _⟩
          · intro u w' hf hR hN hA
            have h6 : u 6 = _ := hR 6 (by omega)
            clear hR hN hA
            simp only [List.take_succ_cons, List.take_zero, List.map_cons, List.map_nil, puts, Act.put, List.setIfInBounds_toArray, List.set_cons_zero, List.set_cons_succ, List.drop_succ_cons, List.drop_zero, Nat.reduceAdd, Nat.zero_add, h6]
            refine wpList_storeBlk rfl 94 (.tmp 14) _ rfl g14 (RV ++ PV).toArray rfl rfl _ _ (RA.out.b14.fr hf (fun x => x)) PD2.out.info (by rw [List.size_toArray, List.size_toArray, PD1.out.len, PD2.out.len]) PD2.out.all ?_
            intro wb bb fb
            have RB : Hid (RndS W wb g14 (RV ++ PV)) := ⟨(RA.out.fr.trans hf).then_ fb (fun i hi e => by have e' : i = g14 := e; have := RA.out.new; omega), bb, RA.out.new⟩
            clear hf bb fb h6 RA
            refine ⟨?_, rfl⟩
            have c11x := (B11.out.fr RB.out.fr (fun x => x)).cell 0
            simp only [List.getElem?_toArray, List.getElem?_cons_zero] at c11x
            gi_wp2_with (refine wpListIn_round1 (opLoads 94) rfl (by kernel_rfl) ?_)
            refine wpList_loadBlk rfl 94 (.tmp 14) rfl g14 rfl _ (RV ++ PV) RB.out.b14 _ Tryd.underlying94 rfl PD2.out.infoL ?_
            refine wpList_buildSlice rfl 82 94 1 #[(0, .tmp 53)] rfl (RV ++ PV).toArray i0 (.agg zeroPair) Tryd.underlying82 hi0 hz0 g1.out g2.out ?b3 ?_
            case b3 =>
              simp only [List.map_toArray, List.map_cons, List.map_nil]
              rw [hz1]
              exact fill_all _ _ 64 (by rw [List.size_toArray, PD2.out.len]) (by simp)
            refine wpList_app1 _ rfl _ _ 82 rfl 94 i0 (.agg zeroPair) 64 64 Tryd.underlying82 hi0 hz0 hz1 hz2 rfl (by omega) _ _ _ rfl (own_fr HROW.out RB.out.fr (fun _ _ x => x)) 1 (RV ++ PV).toArray _ rfl rfl (by rw [List.size_toArray, PD2.out.len]) (fun u hu => PD2.out.one u (by simpa using hu)) (by have := HK.out; omega) (by omega) ?_
            intro v2 y2 hG
            have KG := Lib.hid hG
            obtain ⟨A2, m2, c2, rfl, _, _⟩ := own_slice hG.own
            clear hG
            have NB : Hid (∀ k, (Value.slice A1 m1 c1).ownBlock = some k → w9.heap.size ≤ k ∧ k < W.heap.size) := fun k hk => ⟨HLI.out k hk, by
              obtain ⟨o, ho, _⟩ := own_block HROW.out hk
              exact (Array.getElem?_eq_some_iff.1 ho).1⟩
            have B11y : Hid (Blk y2 g11 82 #[.slice A1 m1 c1]) := (B11.out.fr RB.out.fr (fun x => x)).fr KG.out.fr (fun e => by have := (NB.out _ e).1; have := LT.out; omega)
            refine wpList_store1 rfl 82 (.tmp 11) _ rfl g11 (.slice A2 m2 c2) rfl rfl rfl _ _ B11y.out info82 ?_
            intro y3 b3 f3
            have FY : Hid (Fr Nothing w y3) := (((EW.out.fr.trans RB.out.fr).then_ KG.out.fr (fun i hi e => by have := (NB.out _ e).1; have := (E9.out.fr.size); omega)).then_ f3 (fun i hi e => by have e' : i = g11 := e; have := HNE.out; have := E9.out.o4; have := E9.out.o7; have := E9.out.o8; have := E9.out.o9; have := E9.out.o10; have := H0.out; omega))
            have G14 : Hid (w9.heap.size ≤ g14) := Nat.le_trans HF.out.size RB.out.new
            have B14y : Hid (Blk y3 g14 94 (RV ++ PV).toArray) := (RB.out.b14.fr KG.out.fr (fun e => by have := (NB.out _ e).2; have := RB.out.new; omega)).fr f3 (fun e => by have e' : g14 = g11 := e; have := G14.out; have := LT.out; omega)
            have B12y : Hid (Blk y3 g12 24 RV.toArray) := ((B12.out.fr RB.out.fr (fun x => x)).fr KG.out.fr (fun e => by have := (NB.out _ e).1; have := LT.out; omega)).fr f3 (fun e => by have e' : g12 = g11 := e; have := HNE.out; omega)
            have B3 := Lib.hid b3
            have F3 := Lib.hid f3
            clear b3 f3 c11x
            refine ⟨?_, rfl⟩
            gi_wp2_with (refine wpListIn_round1 (opLoads 94) rfl (by kernel_rfl) ?_)
            refine wpList_loadBlk rfl 94 (.tmp 14) rfl g14 rfl _ (RV ++ PV) B14y.out _ Tryd.underlying94 rfl PD2.out.infoL ?_
            go_wp2_with fail
            refine (CD2.out _ FY.out).mono ?_
            rintro e y4 ⟨rfl, f4⟩
            have B12z := Lib.hid (B12y.out.fr f4 (fun x => x))
            have F4 := Lib.hid f4
            clear f4
            go_wp2_with (refine wpList_storeBlk rfl 24 (.tmp 12) _ rfl g12 NV2.toArray rfl rfl _ _ B12z.out DN2.out.info (DR.out.size.trans DN2.out.size.symm) DN2.out.one ?_)
            intro y5 b5 f5
            refine ⟨?_, rfl⟩
            have KEY := NodI.step (NV := NV2) true HI.out LT.out.1 LT.out.2 (by have := HNE.out; omega) (by have := H1.out; omega) (by have := H1.out; rw [← this]; exact HPD.out) HROW.out HLI.out RB.out.fr KG.out F3.out B3.out F4.out f5 b5 (by rw [← EPV.out, ← ERV.out]; rfl) (EN2.out.symm)
            exact ⟨KEY.1, trivial, KEY.2⟩
  case done =>
    rintro D xs W hD rfl hI hK
    obtain ⟨hf, hle, ⟨v, b11, hrow, hlies⟩, b12⟩ := hI
    obtain ⟨A1, m1, c1, rfl, H1, H2⟩ := own_slice hrow
    have EW : Hid (NodB w W len A c LV g4 g7 g8 g9 g10) := E9.out.keep hf (fun k hk e => by have e' : k = g11 ∨ k = g12 := e; have := HNE.out; omega) (by rintro i hi (rfl | rfl) <;> (have := HNE.out; have := H0.out; have := E9.out.o4; have := E9.out.o7; have := E9.out.o8; have := E9.out.o9; have := E9.out.o10; omega))
    have HF := Lib.hid hf
    have B11 := Lib.hid b11
    have B12 := Lib.hid b12
    have HROW := Lib.hid hrow
    have HLI := Lib.hid hlies
    have HK := Lib.hid hle
    have HDL := Lib.hid hD
    have HKD := Lib.hid hK
    have c11 := b11.cell 0
    have c7 := EW.out.b7.cell 0
    simp only [List.getElem?_toArray, List.getElem?_cons_zero] at c11 c7
    have RK := Lib.hid (RO.out (stepsL index n) hle)
    clear hf b11 b12 hrow hlies hle CI CN S9 hD hK
    have SEP : Hid (w.heap.size ≤ g8 ∧ g8 < g9 ∧ g9 < g10 ∧ g10 < D) := by
      have := HNE.out; have := H0.out; have := EW.out.o4; have := EW.out.o7; have := EW.out.o8; have := EW.out.o9; have := EW.out.o10; have := LT.out; have := HDL.out
      simp only [Hid]; omega
    by_cases hk : m1 < len
    · have t1 : decide ((m1 : Int) < (len : Int)) = true := decide_eq_true (by omega)
      go_upto_region 15 with fail
      refine wp_region_lit ?_
      refine wpList_build0 rfl 24 rfl zero32c CZ.out ?_
      refine wpList_storeBlk rfl 24 (.tmp 8) _ rfl g8 zero32c rfl rfl _ _ EW.out.b8 DZ.out.info rfl DZ.out.one ?_
      intro x1 b1 f1
      refine wpList_store1 rfl 82 (.tmp 9) _ rfl g9 (.slice none 0 0) rfl rfl rfl _ _ (EW.out.b9.fr f1 (fun e => by have e' : g9 = g8 := e; have := EW.out.o9; omega)) info82 ?_
      intro x2 b2 f2
      refine wpList_store1 rfl 26 (.tmp 10) _ rfl g10 (.int .i64 35) rfl rfl rfl _ _ ((EW.out.b10.fr f1 (fun e => by have e' : g10 = g8 := e; have := EW.out.o9; have := EW.out.o10; omega)).fr f2 (fun e => by have e' : g10 = g9 := e; have := EW.out.o10; omega)) info26 ?_
      intro x3 b3 f3
      have J8 := Lib.hid ((b1.fr f2 (fun e => by have e' : g8 = g9 := e; have := EW.out.o9; omega)).fr f3 (fun e => by have e' : g8 = g10 := e; have := EW.out.o9; have := EW.out.o10; omega))
      have J9 := Lib.hid (b2.fr f3 (fun e => by have e' : g9 = g10 := e; have := EW.out.o10; omega))
      have J10 := Lib.hid b3
      have FX : Hid (Fr (fun k => k = g8 ∨ k = g9 ∨ k = g10) W x3) := ((f1.mono (T' := fun k => k = g8 ∨ k = g9 ∨ k = g10) (fun i _ e => .inl e)).trans (f2.mono (fun i _ e => .inr (.inl e)))).trans (f3.mono (fun i _ e => .inr (.inr e)))
      have KD : Hid (x3.heap[D]? = some (.deferred (some []))) := (FX.out.block D (Array.getElem?_eq_some_iff.1 HKD.out).1 (by have := SEP.out; omega)).trans HKD.out
      clear b1 b2 b3 f1 f2 f3
      have PF : Fr (fun k => some k = some D) x3 (x3.putObj D (.deferred none)) := Fr.grown (grownBy_putObj' x3 D _)
      have JF : Hid (Fr Nothing w (x3.putObj D (.deferred none))) := (EW.out.fr.then_ FX.out (fun i hi e => by have := SEP.out; omega)).then_ PF (fun i hi e => by have e' : i = D := (by simpa using e); have := SEP.out; omega)
      have K8 := Lib.hid (J8.out.fr PF (fun e => by have e' : g8 = D := (by simpa using e); have := SEP.out; omega))
      have K9 := Lib.hid (J9.out.fr PF (fun e => by have e' : g9 = D := (by simpa using e); have := SEP.out; omega))
      have K10 := Lib.hid (J10.out.fr PF (fun e => by have e' : g10 = D := (by simpa using e); have := SEP.out; omega))
      have NN := Lib.hid (NodesD.none (k := 35) JF.out)
      rw [digV, show zeroL.map bvI = digC zeroL from rfl, ZC.out] at NN
      have VE : Hid (nodesV leaf index n path = (zeroL, [], 35)) := by
        simp only [Hid]
        rw [NV.out, if_neg (by rw [PL.out]; have := H1.out; omega)]
      clear PF
      go_wp2
      refine ⟨by simp, .inl ⟨_, _, rfl, run_takeDeferred KD.out, ?_⟩⟩
      exact ⟨_, results_nodes _ _ g8 g9 g10 zero32c _ 35 rfl rfl rfl K8.out DZ.out.info K9.out K10.out, by rw [VE.out]; exact NN.out⟩
    · have t1 : decide ((m1 : Int) < (len : Int)) = false := decide_eq_false (by omega)
      have hr32 := RK.out.root
      have HRV : Hid ((Tryd.prog.info? 24).map (·.size) = some (digC (runF leaf (stepsL index n) path).1).length) := by rw [digC, List.length_map, hr32]; exact infoD
      have DR : Hid (Dig (digC (runF leaf (stepsL index n) path).1).toArray) := Dig.of hr32
      have VE : Hid (nodesV leaf index n path = ((runF leaf (stepsL index n) path).1, (runF leaf (stepsL index n) path).2, 0)) := by
        simp only [Hid]
        rw [NV.out, if_pos (by rw [PL.out]; have := H1.out; have := HK.out; omega)]
      generalize hRV : digC (runF leaf (stepsL index n) path).1 = RV at *
      have ERV := Lib.hid hRV
      clear hRV hr32
      go_upto_region 16 with fail
      refine wp_region_st 3 (fun k => k = g8) [Is (.agg RV.toArray), Is (.slice A1 m1 c1), fun _ _ => True] [(2, fun w' => Blk w' g8 24 RV.toArray)] (fun w' => Blk w' g8 24 zero32c) (fun _ _ => false) (by kernel_rfl) (by kernel_rfl) (by kernel_rfl) (by kernel_rfl) ⟨Is.stable _, Is.stable _, fun _ _ _ _ _ h => h, trivial⟩ ⟨fun _ _ _ hf h => h.fr hf (fun x => x), trivial⟩ (fun _ _ _ hf h => h.fr hf (fun x => x)) EW.out.b8 ?_ ?_
      · refine ⟨fun u w' d hf hR k1 k0 kM => ?_, fun u w' d hf hR k1 k0 kM => ?_, fun u w' d hf hR k1 k0 kM => ?_, trivial⟩
        all_goals simp only [List.take_succ_cons, List.take_zero, List.map_cons, List.map_nil, puts, Act.put, List.setIfInBounds_toArray, List.set_cons_zero, List.set_cons_succ, Nat.reduceAdd, Nat.zero_add]
        · clear hR k1 k0 kM
          refine .inl ⟨by kernel_rfl, ?_⟩
          exact wp_load_mid _ _ rfl g12 0 rfl RV _ (range_blk (B12.out.fr hf (fun e => by have e' : g12 = g8 := e; have := SEP.out; have := HNE.out; omega))) Tryd.underlying24 rfl HRV.out ⟨_, rfl, Fr.refl _ _, rfl, trivial⟩
        · clear hR k1 k0 kM
          refine .inl ⟨by kernel_rfl, ?_⟩
          have q := hf.cellSome c11 (fun e => by have e' : g11 = g8 := e; have := SEP.out; have := HNE.out; omega)
          go_simp
          exact ⟨_, rfl, Fr.refl _ _, rfl, trivial⟩
        · have h0 : u 0 = _ := hR 0 (by kernel_rfl)
          clear hR
          simp only [h0]
          refine .inl ⟨by kernel_rfl, ?_⟩
          have hN : Blk w' g8 24 zero32c := by rw [stage, if_neg (by rw [k0 2 (by kernel_rfl)]; exact Bool.false_ne_true)] at kM; exact kM
          clear k1 k0 kM
          refine wp_storeBlk 24 (.tmp 8) (.tmp 64) rfl g8 RV.toArray rfl rfl _ _ hN DR.out.info DR.out.zero DR.out.one ?_
          intro w4 b4 f4
          exact ⟨_, rfl, f4, trivial, b4⟩
      · intro u w' hf hR kM
        have h0 : u 0 = _ := hR 0 (by omega)
        have h1 : u 1 = _ := hR 1 (by omega)
        clear hR
        have k8 : Blk w' g8 24 RV.toArray := kM
        clear kM
        simp only [List.take_succ_cons, List.take_zero, List.map_cons, List.map_nil, puts, Act.put, List.setIfInBounds_toArray, List.set_cons_zero, List.set_cons_succ, List.drop_succ_cons, List.drop_zero, Nat.zero_add, h0, h1]
        refine wpList_store1 rfl 82 (.tmp 9) _ rfl g9 (.slice A1 m1 c1) rfl rfl rfl _ _ (EW.out.b9.fr hf (fun e => by have e' : g9 = g8 := e; have := SEP.out; omega)) info82 ?_
        intro x2 b2 f2
        refine wpList_store1 rfl 26 (.tmp 10) _ rfl g10 (.int .i64 0) rfl rfl rfl _ _ ((EW.out.b10.fr hf (fun e => by have e' : g10 = g8 := e; have := SEP.out; omega)).fr f2 (fun e => by have e' : g10 = g9 := e; have := SEP.out; omega)) info26 ?_
        intro x3 b3 f3
        have J8 := Lib.hid ((k8.fr f2 (fun e => by have e' : g8 = g9 := e; have := SEP.out; omega)).fr f3 (fun e => by have e' : g8 = g10 := e; have := SEP.out; omega))
        have J9 := Lib.hid (b2.fr f3 (fun e => by have e' : g9 = g10 := e; have := SEP.out; omega))
        have J10 := Lib.hid b3
        have FX : Hid (Fr (fun k => k = g8 ∨ k = g9 ∨ k = g10) W x3) := ((hf.mono (T' := fun k => k = g8 ∨ k = g9 ∨ k = g10) (fun i _ e => .inl e)).trans (f2.mono (fun i _ e => .inr (.inl e)))).trans (f3.mono (fun i _ e => .inr (.inr e)))
        have KD : Hid (x3.heap[D]? = some (.deferred (some []))) := (FX.out.block D (Array.getElem?_eq_some_iff.1 HKD.out).1 (by have := SEP.out; omega)).trans HKD.out
        clear k8 b2 b3 hf f2 f3
        have PF : Fr (fun k => some k = some D) x3 (x3.putObj D (.deferred none)) := Fr.grown (grownBy_putObj' x3 D _)
        have JF : Hid (Fr Nothing w (x3.putObj D (.deferred none))) := (EW.out.fr.then_ FX.out (fun i hi e => by have := SEP.out; omega)).then_ PF (fun i hi e => by have e' : i = D := (by simpa using e); have := SEP.out; omega)
        have K8 := Lib.hid (J8.out.fr PF (fun e => by have e' : g8 = D := (by simpa using e); have := SEP.out; omega))
        have K9 := Lib.hid (J9.out.fr PF (fun e => by have e' : g9 = D := (by simpa using e); have := SEP.out; omega))
        have K10 := Lib.hid (J10.out.fr PF (fun e => by have e' : g10 = D := (by simpa using e); have := SEP.out; omega))
        have KO : Hid ((x3.putObj D (.deferred none)).ownsRow 0 94 64 (.slice A1 m1 c1) (stepsL index n).length ((runF leaf (stepsL index n) path).2.flatMap pairC)) :=
          own_fr (own_fr HROW.out FX.out (fun k hk e => by have := HLI.out k hk; have := SEP.out; have := LT.out; have := HNE.out; omega)) PF (fun k hk e => by
            have e' : k = D := by simpa using e
            subst e'
            obtain ⟨o, ho, hc⟩ := own_block HROW.out hk
            rw [HKD.out] at ho
            cases ho
            cases hc)
        have CT := Lib.hid RK.out.count
        clear PF
        go_wp2
        refine ⟨by simp, .inl ⟨_, _, rfl, run_takeDeferred KD.out, ?_⟩⟩
        refine ⟨_, results_nodes _ _ g8 g9 g10 RV.toArray _ 0 rfl rfl rfl K8.out DR.out.info K9.out K10.out, ?_⟩
        rw [VE.out]
        refine ⟨.slice A1 m1 c1, ?_, ⟨?_, JF.out.weak, fun k hk => .inr (Nat.le_trans E9.out.fr.size (HLI.out k hk))⟩⟩
        · rw [← ERV.out]
          rfl
        · simp only
          rw [CT.out]
          exact KO.out
  case stop =>
    rintro D cd pre W hD _ ⟨hX, rfl, hlt⟩ hK
    have SEP : Hid (w.heap.size ≤ g8 ∧ g8 < g9 ∧ g9 < g10 ∧ g10 < g11 ∧ g11 < g12 ∧ g12 < D) := by
      have := HNE.out; have := H0.out; have := E9.out.o4; have := E9.out.o7; have := E9.out.o8; have := E9.out.o9; have := E9.out.o10; have := LT.out
      simp only [Hid]; omega
    have KD := Lib.hid hK
    have PF : Fr (fun k => some k = some D) W (W.putObj D (.deferred none)) := Fr.grown (grownBy_putObj' W D _)
    have JF : Hid (Fr Nothing w (W.putObj D (.deferred none))) := (E9.out.fr.then_ hX.fr (fun i hi e => by have := SEP.out; omega)).then_ PF (fun i hi e => by have e' : i = D := (by simpa using e); have := SEP.out; omega)
    have K8 := Lib.hid (hX.b8.fr PF (fun e => by have e' : g8 = D := (by simpa using e); have := SEP.out; omega))
    have K9 := Lib.hid (hX.b9.fr PF (fun e => by have e' : g9 = D := (by simpa using e); have := SEP.out; omega))
    have K10 := Lib.hid (hX.b10.fr PF (fun e => by have e' : g10 = D := (by simpa using e); have := SEP.out; omega))
    have NN := Lib.hid (NodesD.none (k := 35) JF.out)
    rw [digV, show zeroL.map bvI = digC zeroL from rfl, ZC.out] at NN
    have VE : Hid (nodesV leaf index n path = (zeroL, [], 35)) := by
      simp only [Hid]
      rw [NV.out, if_neg (by rw [PL.out]; omega)]
    clear PF hX hK CI CN S9
    gi_wp2
    refine ⟨by simp, .inl ⟨_, _, rfl, run_takeDeferred KD.out, ?_⟩⟩
    exact ⟨_, results_nodes _ _ g8 g9 g10 zero32c _ 35 rfl rfl rfl K8.out DZ.out.info K9.out K10.out, by rw [VE.out]; exact NN.out⟩
end Go.Proofs.YtkaghbpdnmigmaaDoor
