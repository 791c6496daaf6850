/- The iterator blocks.Map.in, slices.AppendSeq and slices.Collect of it, Used and Old. -/
import Derived.Test.YtejajafbopabmaaDoorBlkC
import Derived.RangeFuncBox
import Derived.RangeFuncNested
import Derived.RangeFuncLeaves
import Derived.Shelf.Abstract
import Derived.OwnWalkIn
import Derived.TacticsInMore
import Derived.LoopNIn
import Derived.LoopIn
import Derived.Maps.AppendAt
namespace Go.Proofs.YtejajafbopabmaaDoor
open Go.RowKit Go.Shelf

attribute [local go_sem] Oper.semAt_some

/-- The blocks of S lie as they lay. -/
def Keep (S : Nat → Prop) (W W' : World) : Prop := ∀ k, S k → W'.heap[k]? = W.heap[k]?
theorem Keep.refl (S : Nat → Prop) (W : World) : Keep S W W := fun _ _ => rfl
theorem Keep.trans {S : Nat → Prop} {A B C : World} (h : Keep S A B) (k : Keep S B C) : Keep S A C := fun i hi => (k i hi).trans (h i hi)
theorem Keep.below {S : Nat → Prop} {A B : World} {n₀ : Nat} (h : Below n₀ A B) (hS : ∀ k, S k → k < n₀) : Keep S A B := fun i hi => h.block i (hS i hi)
theorem Keep.put {S : Nat → Prop} {w : World} (hS : ∀ k, S k → k < w.heap.size) (W : World) (l : Nat) (o o' : Obj) (hl : w.heap.size ≤ l) (_ : W.heap[l]? = some o) (_ : o.isCells = false) (_ : o.isWalk = false) : Keep S W (W.putObj l o') :=
  fun i hi => World.putObj_heap_other (by have := hS i hi; omega)

/-- The blocks that the iterator reads. -/
structure It (W : World) (B1 B2 B3 g b c f n : Nat) (l : List UInt8) (x y : UInt8) : Prop where
  m : BM W g b c f n l
  b1 : Boxed W B1 25 (.pointer (some ⟨g, 0, none⟩))
  b2 : Boxed W B2 5 (.int .u8 (x.toNat : Nat))
  b3 : Boxed W B3 5 (.int .u8 (y.toNat : Nat))
def ItS (B1 B2 B3 g b : Nat) : Nat → Prop := fun k => k = g ∨ k = b ∨ k = B1 ∨ k = B2 ∨ k = B3

theorem BM.keep {W W' : World} {g b c f n : Nat} {l : List UInt8} (h : BM W g b c f n l) (hg : W'.heap[g]? = W.heap[g]?) (hb : W'.heap[b]? = W.heap[b]?) : BM W' g b c f n l := by
  refine ⟨hg.trans h.blk, ⟨h.own.1, ?_⟩, h.far, h.hf, h.h1, h.hn, h.o4⟩
  rcases h.own.2 with ⟨e, _⟩ | ⟨g', cap, cur, e, rest⟩
  · cases e
  · obtain ⟨hb0, hcur, r⟩ := rest
    have e1 : g' = b := by
      have e' := congrArg Value.ownBlock e
      simpa [Value.ownBlock] using e'.symm
    subst e1
    exact .inr ⟨g', cap, cur, e, hb0, hb.trans hcur, r⟩
theorem It.keep {W W' : World} {B1 B2 B3 g b c f n : Nat} {l : List UInt8} {x y : UInt8} (h : It W B1 B2 B3 g b c f n l x y) (hk : Keep (ItS B1 B2 B3 g b) W W') : It W' B1 B2 B3 g b c f n l x y :=
  ⟨h.m.keep (hk g (.inl rfl)) (hk b (.inr (.inl rfl))), (hk B1 (.inr (.inr (.inl rfl)))).trans h.b1, (hk B2 (.inr (.inr (.inr (.inl rfl))))).trans h.b2, (hk B3 (.inr (.inr (.inr (.inr rfl))))).trans h.b3⟩
theorem It.lt {W : World} {B1 B2 B3 g b c f n : Nat} {l : List UInt8} {x y : UInt8} (h : It W B1 B2 B3 g b c f n l x y) : ∀ k, ItS B1 B2 B3 g b k → k < W.heap.size := by
  rintro k (rfl | rfl | rfl | rfl | rfl)
  · exact h.m.blk.lt
  · have := World.block_lt_of_cell? W _ (h.m.at_ (k := 0) h.m.h1)
    exact this
  · exact h.b1.lt
  · exact h.b2.lt
  · exact h.b3.lt

/-- The places below k in one of two states. -/
def hit (l : List UInt8) (x y : UInt8) (k : Nat) : Bool := byteAt l k == x.toNat || byteAt l k == y.toNat
def pickF (l : List UInt8) (x y : UInt8) (n : Nat) : Nat → List (Fin n)
  | 0 => []
  | k + 1 => if h : k < n then (if hit l x y k then pickF l x y n k ++ [⟨k, h⟩] else pickF l x y n k) else pickF l x y n k
theorem pickF_hit {l : List UInt8} {x y : UInt8} {n k : Nat} (h : k < n) (hh : hit l x y k = true) : pickF l x y n (k + 1) = pickF l x y n k ++ [⟨k, h⟩] := by simp [pickF, h, hh]
theorem pickF_miss {l : List UInt8} {x y : UInt8} {n k : Nat} (hh : hit l x y k = false) : pickF l x y n (k + 1) = pickF l x y n k := by simp [pickF, hh]
theorem pickF_length (l : List UInt8) (x y : UInt8) (n : Nat) : ∀ k, (pickF l x y n k).length ≤ k
  | 0 => by simp [pickF]
  | k + 1 => by
    have := pickF_length l x y n k
    unfold pickF
    repeat' split
    all_goals first | omega | (simp; omega)

set_option maxRecDepth 100000 in
set_option maxHeartbeats 2000000 in
theorem in1_in (F : Fence) (m : Nat) (h67 : F.fn 67) (hro : F.round = none) (hm : 1 ≤ m) (L B1 B2 B3 g b c f n : Nat) (l : List UInt8) (x y : UInt8) (J Jx : List (Fin n) → World → Prop)
    (hY : ∀ pre (i : Fin n) W, J pre W → pre.length < n → YieldAt F (m - 1) Tryd.prog L #[.int .i64 ((f : Int) + (i.1 : Int))] W fun e W' =>
      (e = .returned (.bool true) ∧ J (pre ++ [i]) W' ∧ Keep (ItS B1 B2 B3 g b) W W') ∨ (e = .returned (.bool false) ∧ Jx (pre ++ [i]) W'))
    (W : World) (hit0 : It W B1 B2 B3 g b c f n l x y) (h0 : J [] W) :
    CallsIn F m Tryd.prog 67 #[.func (.yield L) #[] #[], .pointer (some ⟨B1, 0, none⟩), .pointer (some ⟨B2, 0, none⟩), .pointer (some ⟨B3, 0, none⟩)] W fun e W' => (∃ v, e = .returned v) ∧
      ((∃ ys, ys = pickF l x y n n ∧ J ys W') ∨ (∃ pre : List (Fin n), True ∧ Jx pre W')) := by
  have HI := Lib.hid hit0
  have HY := Lib.hid hY
  have hn := hit0.m.hn
  have hf := hit0.m.hf
  have e1 := hit0.b1.cell
  have e2 := hit0.m.c1
  clear hit0 hY
  refine callsIn_of_wp Tryd.func67 rfl h67 ?_ hro
  simp only [Tryd.ntmps67, List.size_toArray, List.length_cons, List.length_nil, Nat.reduceAdd, Nat.reduceSub, Array.replicate_succ, Array.replicate_zero, List.push_toArray, List.append_toArray, List.nil_append, List.cons_append]
  gi_wp2
  clear e1 e2
  gi_loopw [14] (fun i wr => ∃ k : Nat, k ≤ n ∧ i = .int .i64 k ∧ J (pickF l x y n k) wr ∧ It wr B1 B2 B3 g b c f n l x y) (fun i _ => n - (intOf i).toNat)
  case atStart => exact ⟨0, Nat.zero_le _, rfl, h0, HI.out⟩
  case round =>
    obtain ⟨k, hk, rfl, hJs, hit1⟩ := hrel
    have HI1 := Lib.hid hit1
    have HJ := Lib.hid hJs
    clear hJs hit1 HI
    by_cases hlt : k < n
    · have c1 := HI1.out.b1.cell
      have c2 := HI1.out.b2.cell
      have c3 := HI1.out.b3.cell
      have c4 := HI1.out.m.at_ hlt
      have c5 := HI1.out.m.c0
      have hpl := pickF_length l x y n k
      have hb4 := byteAt_lt HI1.out.m.o4 k
      by_cases hh : hit l x y k = true
      · obtain ⟨fn, tmps, assign, body, hy, hR⟩ := HY.out _ ⟨k, hlt⟩ wr HJ.out (by omega)
        dsimp only at hy
        have HH := Lib.hid (pickF_hit hlt hh)
        have hcase : (((byteAt l k : Nat) : Int) == ((x.toNat : Nat) : Int)) = true ∨ ((((byteAt l k : Nat) : Int) == ((x.toNat : Nat) : Int)) = false ∧ (((byteAt l k : Nat) : Int) == ((y.toNat : Nat) : Int)) = true) := by
          unfold hit at hh
          simp only [Bool.or_eq_true, beq_iff_eq] at hh
          by_cases e : byteAt l k = x.toNat
          · exact .inl (beq_iff_eq.2 (by omega))
          · exact .inr ⟨beq_eq_false_iff_ne.2 (by omega), beq_iff_eq.2 (by omega)⟩
        have HR := Lib.hid hR
        clear hh hR
        generalize byteAt l k = z at *
        rcases hcase with t1 | ⟨t1, t2⟩
        all_goals
          gi_wp2
          refine HR.out.mono ?_
          rintro e W3 (⟨rfl, hJ3, hk3⟩ | ⟨rfl, hJx3⟩)
          · have K3 := Lib.hid hk3
            have KJ3 := Lib.hid hJ3
            clear hk3 hJ3
            gi_wp2
            go_roundw
            case rel => exact ⟨k + 1, by omega, by go_num, by rw [HH.out]; exact KJ3.out, HI1.out.keep K3.out⟩
            case measure => simp [intOf]; omega
          · gi_wp2
            refine bodyPost_ret (results_none rfl _ _ _) rfl ?_
            exact ⟨⟨_, rfl⟩, .inr ⟨_, trivial, hJx3⟩⟩
      · have hh' : hit l x y k = false := by simpa using hh
        have HH := Lib.hid (pickF_miss (n := n) hh')
        unfold hit at hh'
        simp only [Bool.or_eq_false_iff, beq_eq_false_iff_ne] at hh'
        have t1 : (((byteAt l k : Nat) : Int) == ((x.toNat : Nat) : Int)) = false := beq_eq_false_iff_ne.2 (by omega)
        have t2 : (((byteAt l k : Nat) : Int) == ((y.toNat : Nat) : Int)) = false := beq_eq_false_iff_ne.2 (by omega)
        clear hh hh'
        generalize byteAt l k = z at *
        gi_wp2
        refine ⟨fun _ h => (by cases h), ?_⟩
        gi_wp2
        go_roundw
        case rel => exact ⟨k + 1, by omega, by go_num, by rw [HH.out]; exact HJ.out, HI1.out⟩
        case measure => simp [intOf]; omega
    · obtain rfl : k = n := by omega
      gi_wp2
      go_end0
      exact ⟨⟨_, rfl⟩, .inl ⟨_, rfl, HJ.out⟩⟩

set_option maxRecDepth 100000 in
set_option maxHeartbeats 2000000 in
theorem in1_nil (F : Fence) (m : Nat) (h67 : F.fn 67) (hro : F.round = none) (L B1 B2 B3 : Nat) (J : List (Fin 0) → World → Prop)
    (W : World) (b1 : Boxed W B1 25 (.pointer none)) (h0 : J [] W) :
    CallsIn F m Tryd.prog 67 #[.func (.yield L) #[] #[], .pointer (some ⟨B1, 0, none⟩), .pointer (some ⟨B2, 0, none⟩), .pointer (some ⟨B3, 0, none⟩)] W fun e W' => (∃ v, e = .returned v) ∧ J [] W' := by
  have e1 := b1.cell
  refine callsIn_of_wp Tryd.func67 rfl h67 ?_ hro
  simp only [Tryd.ntmps67, List.size_toArray, List.length_cons, List.length_nil, Nat.reduceAdd, Nat.reduceSub, Array.replicate_succ, Array.replicate_zero, List.push_toArray, List.append_toArray, List.nil_append, List.cons_append]
  gi_wp2
  refine bodyPost_ret (results_none rfl _ _ _) rfl ?_
  exact ⟨⟨_, rfl⟩, h0⟩

/-- What the iterator's value captures. -/
def caps (B1 B2 B3 : Nat) : Array Value := #[.pointer (some ⟨B1, 0, none⟩), .pointer (some ⟨B2, 0, none⟩), .pointer (some ⟨B3, 0, none⟩)]

theorem in_stops (m : Nat) (hm : 1 ≤ m) (B1 B2 B3 g b c f n : Nat) (l : List UInt8) (x y : UInt8) (w : World) (hi : It w B1 B2 B3 g b c f n l x y) :
    SeqStopsK Fence.wide m Tryd.prog 67 (caps B1 B2 B3) (fun i : Fin n => #[Value.int .i64 ((f : Int) + (i.1 : Int))]) (Keep (ItS B1 B2 B3 g b)) (fun ys => ys = pickF l x y n n) (fun _ => True) n w := fun L J Jx W hW _ _ hY h0 =>
  in1_in Fence.wide m trivial rfl hm L B1 B2 B3 g b c f n l x y J Jx hY W (hi.keep (Keep.below hW hi.lt)) h0

theorem in_stops_nil (m : Nat) (B1 B2 B3 : Nat) (w : World) (hi : Boxed w B1 25 (.pointer none)) :
    SeqStopsK Fence.wide m Tryd.prog 67 (caps B1 B2 B3) (fun i : Fin 0 => #[Value.int .i64 ((0 : Int) + (i.1 : Int))]) (Keep (fun _ => False)) (fun ys => ys = []) (fun _ => True) 0 w := fun L J _ W hW _ _ _ h0 =>
  (in1_nil Fence.wide m trivial rfl L B1 B2 B3 J W ((hW.block B1 hi.lt).trans hi) h0).mono fun _ _ ⟨he, hj⟩ => ⟨he, .inl ⟨[], rfl, hj⟩⟩

set_option maxHeartbeats 1000000 in
/-- m.in(x, y): three boxes, captured. -/
theorem in_any (p : Option Addr) (x y : UInt8) (w : World) :
    Calls Tryd.prog 40 #[.pointer p, .int .u8 (x.toNat : Nat), .int .u8 (y.toNat : Nat)] w fun e w' => e = .returned (.func (.func 67) #[] (caps w.heap.size (w.heap.size + 1) (w.heap.size + 2))) ∧
      w' = ((w.alloc (.cells #[.pointer p] 25)).alloc (.cells #[.int .u8 (x.toNat : Nat)] 5)).alloc (.cells #[.int .u8 (y.toNat : Nat)] 5) := by
  go_enter Tryd.func40, Tryd.ntmps40
  go_wp2
  go_ret
  exact ⟨rfl, rfl⟩

theorem info_int : (Tryd.prog.info? 3).map (fun i => (i.zero, i.size, i.bytes)) = some (some (.int .i64 0), 1, 8) := by kernel_rfl

def iv (f : Nat) {n : Nat} (i : Fin n) : Value := .int .i64 ((f : Int) + (i.1 : Int))

/-- A row of ints of the call's own. -/
abbrev OwnI (w : World) (v : Value) (l : List Int) : Prop := w.ownsRow 0 3 1 v l.length (l.map (Value.int .i64))
abbrev GrewI (w : World) (w' : World) (v' : Value) (l : List Int) : Prop := Grew 3 1 w (.slice none 0 0) w' v' l.length (l.map (Value.int .i64))
def SomeGrewI (w : World) (l : List Int) (e : Ending) (w' : World) : Prop := ∃ v', e = .returned v' ∧ GrewI w w' v' l

theorem Fr.of_below {w w' : World} (h : Below w.heap.size w w') : Fr Nothing w w' := ⟨h.os, h.tape, h.output, h.size, fun k hk _ => h.block k hk⟩
theorem grew_of_below {w w' : World} {e : TypeId} {v : Value} {n : Nat} {xs : List Value} (h : w'.ownsRow w.heap.size e 1 v n xs) (hb : Below w.heap.size w w') : Grew e 1 w (.slice none 0 0) w' v n xs := by
  refine ⟨⟨h.1, ?_⟩, (Fr.of_below hb).weak, fun k hk => ?_⟩
  · rcases h.2 with h1 | ⟨g, cap, cur, e1, hb0, rest⟩
    · exact .inl h1
    · exact .inr ⟨g, cap, cur, e1, Nat.zero_le _, rest⟩
  · rcases h.2 with ⟨rfl, _⟩ | ⟨g, cap, cur, rfl, hb0, rest⟩
    · simp [Value.ownBlock] at hk
    · simp [Value.ownBlock] at hk
      subst hk
      exact .inr hb0

set_option maxRecDepth 100000 in
set_option maxHeartbeats 2000000 in
theorem appendSeq_in (f n : Nat) (hn : n ≤ 65536) (ys : List (Fin n)) (B1 B2 B3 : Nat) (S : Nat → Prop) (w : World) (hS : ∀ k, S k → k < w.heap.size)
    (hseq : ∀ w', Below w.heap.size w w' → SeqStopsK Fence.wide 4 Tryd.prog 67 (caps B1 B2 B3) (fun i : Fin n => #[iv f i]) (Keep S) (fun zs => zs = ys) (fun _ => True) n w') :
    Calls Tryd.prog 66 #[.slice none 0 0, .func (.func 67) #[] (caps B1 B2 B3)] w fun e W' => ∃ v, e = .returned v ∧ W'.ownsRow w.heap.size 3 1 v ys.length (ys.map (iv f)) ∧ Below w.heap.size w W' := by
  obtain ⟨i0, hi, hz0, hz1, hz2⟩ := info_parts info_int
  refine (callsIn_wide (n := 5)).1 ?_
  refine callsIn_of_wp_marks Tryd.func66 rfl trivial ?_ rfl
  simp only [Tryd.ntmps66, List.size_toArray, List.length_cons, List.length_nil, Nat.reduceAdd, Nat.reduceSub, Array.replicate_succ, Array.replicate_zero, List.push_toArray, List.append_toArray, List.nil_append, List.cons_append]
  gi_wp2
  have bO := Boxed.new w 26 (.slice none 0 0)
  have hB0 : Below w.heap.size w (w.alloc (.cells #[.slice none 0 0] 26)) := (Below.refl _ w).alloc (Nat.le_refl _) _
  refine wpIn_rangeFunc_ownG rfl (by omega) (gf := 67) (lb := caps B1 B2 B3) rfl trivial (enters_of Tryd.func67 (by kernel_rfl) rfl)
    (hseq _ hB0) Keep.trans (Keep.put (fun k hk => by have := hS k hk; simp; omega)) (Below.refl _ _) (fun _ => rfl)
    (fun pre W => (∃ v, Boxed W w.heap.size 26 v ∧ W.ownsRow w.heap.size 3 1 v pre.length (pre.map (iv f)) ∧ True) ∧ Below w.heap.size w W)
    (fun _ _ _ => False)
    (OwnFrom.and (Own.from (holdsRow_own w.heap.size w.heap.size 26 3 1 (fun pre : List (Fin n) => pre.length) (fun pre => pre.map (iv f)) (fun pre v => True)) _) (ownFrom_below (Nat.le_refl _) (by simp)))
    (fun _ _ _ _ _ hs _ _ => hs)
    ⟨⟨_, bO, World.ownsRow_nil _ _ _ _, trivial⟩, hB0⟩
    (fun x => { tmps := #[.slice none 0 0, .func (.func 67) #[] (caps B1 B2 B3), .pointer (some ⟨w.heap.size, 0, none⟩), undef, .slice none 0 0, iv f x, .func (.func 67) #[] (caps B1 B2 B3), iv f x, undef, undef, undef, undef, undef], defers := [] }) ?assign ?body ?done ?stop
  case assign =>
    intro l x W K hK
    gi_wp2
    exact hK
  case body =>
    rintro l pre x W ⟨⟨v, hv, hrow, _⟩, hB⟩ hlt
    have hc := hv.cell
    unfold iv
    gi_wp2_with (gi_at_builtin; refine wpListIn_append_own _ rfl _ _ 26 rfl w.heap.size 3 i0 (.int .i64 0) 1 8 Tryd.underlying26 hi hz0 hz1 hz2 rfl (by decide) _ _ _ rfl (hrow.alloc _) ⟨W.heap.size, 0, none⟩ 1 1 [.int .i64 ((f : Int) + (x.1 : Int))] rfl rfl (cell_one_new _ _ _) (by simp [Value.oneCell']) (by simp [maxLen]; omega) (by omega) (by have := hB.size; simp; omega) ?_; intro v' w1 hown' hgrow _; obtain ⟨g', cap', rfl⟩ := ownsRow_succ hown'; obtain ⟨hv1, hv2, hr2, hk2, hb2⟩ := hv.appended (by decide) hrow hB.size (Nat.le_refl _) hown' hgrow; have hc1 := hv1.cell; have hf1 := hv1.frozen)
    exact ⟨hk2.from _, Keep.below hb2 hS, ⟨_, hv2, by simp only [List.length_append, List.length_singleton, List.map_append, List.map_cons, List.map_nil]; exact hr2, trivial⟩, hB.trans hb2⟩
  case done =>
    rintro D zs W hD rfl ⟨⟨v, hv, hrow, _⟩, hB⟩ hK
    have hc := hv.cell
    gi_wp2
    refine ⟨by simp, .inl ⟨_, _, rfl, run_takeDeferred hK, ?_⟩⟩
    exact ⟨_, results_tmp rfl _ _ _, v, rfl, ownsRow_putObj hrow _ hK rfl, hB.trans (belowK_b (w := w) (Nat.le_refl _) W D _ _ (by simp at hD; omega) hK rfl rfl)⟩
  case stop =>
    rintro D c pre W _ _ h _
    exact h.elim

set_option maxHeartbeats 1000000 in
theorem collect_in (f n : Nat) (hn : n ≤ 65536) (ys : List (Fin n)) (B1 B2 B3 : Nat) (S : Nat → Prop) (w : World) (hS : ∀ k, S k → k < w.heap.size)
    (hseq : ∀ w', Below w.heap.size w w' → SeqStopsK Fence.wide 4 Tryd.prog 67 (caps B1 B2 B3) (fun i : Fin n => #[iv f i]) (Keep S) (fun zs => zs = ys) (fun _ => True) n w') :
    Calls Tryd.prog 39 #[.func (.func 67) #[] (caps B1 B2 B3)] w fun e W' => ∃ v, e = .returned v ∧ W'.ownsRow w.heap.size 3 1 v ys.length (ys.map (iv f)) ∧ Below w.heap.size w W' := by
  go_enter Tryd.func39, Tryd.ntmps39
  go_wp2_with fail
  refine (appendSeq_in f n hn ys B1 B2 B3 S _ hS hseq).mono ?_
  rintro e w1 ⟨v, rfl, h1, h2⟩
  go_wp2
  go_ret
  exact ⟨v, rfl, h1, h2⟩

/-- The blocks in one of two states. -/
def blkL (f : Nat) (l : List UInt8) (x y : UInt8) : List Int := (pickF l x y l.length l.length).map fun i => (f : Int) + (i.1 : Int)

theorem used_walk (fid : FuncId) (p : Option Addr) (x y : UInt8) (w : World) (f n : Nat) (_ : n ≤ 65536) (ys : List (Fin n)) (S : Nat → Prop) (_ : ∀ k, S k → k < w.heap.size + 3)
    (_ : ∀ w', Below (w.heap.size + 3) (((w.alloc (.cells #[.pointer p] 25)).alloc (.cells #[.int .u8 (x.toNat : Nat)] 5)).alloc (.cells #[.int .u8 (y.toNat : Nat)] 5)) w' → SeqStopsK Fence.wide 4 Tryd.prog 67 (caps w.heap.size (w.heap.size + 1) (w.heap.size + 2)) (fun i : Fin n => #[iv f i]) (Keep S) (fun zs => zs = ys) (fun _ => True) n w')
    (hwalk : ∀ Q : Ending → World → Prop, (∀ e w', (∃ v, e = .returned v ∧ w'.ownsRow (w.heap.size + 3) 3 1 v ys.length (ys.map (iv f)) ∧ Below (w.heap.size + 3) (((w.alloc (.cells #[.pointer p] 25)).alloc (.cells #[.int .u8 (x.toNat : Nat)] 5)).alloc (.cells #[.int .u8 (y.toNat : Nat)] 5)) w') → Q e w') → Calls Tryd.prog fid #[.pointer p] w Q) :
    Calls Tryd.prog fid #[.pointer p] w (SomeGrewI w (ys.map fun i => (f : Int) + (i.1 : Int))) := by
  refine hwalk _ ?_
  rintro e w' ⟨v, rfl, h1, h2⟩
  refine ⟨v, rfl, ?_⟩
  have hb : Below w.heap.size w w' := ((((Below.refl _ w).alloc (Nat.le_refl _) _).alloc (by simp) _).alloc (by simp; omega) _).trans (h2.mono (by omega))
  have h3 : w'.ownsRow w.heap.size 3 1 v ys.length (ys.map (iv f)) := by
    refine ⟨h1.1, ?_⟩
    rcases h1.2 with h4 | ⟨g, cap, cur, e1, hb0, rest⟩
    · exact .inl h4
    · exact .inr ⟨g, cap, cur, e1, by omega, rest⟩
  have h4 := grew_of_below h3 hb
  have e1 : (ys.map fun i => (f : Int) + (i.1 : Int)).length = ys.length := by simp
  have e2 : (ys.map fun i => (f : Int) + (i.1 : Int)).map (Value.int .i64) = ys.map (iv f) := by simp [iv]
  unfold GrewI
  rw [e1, e2]
  exact h4

theorem it_new {w : World} {g b c f n : Nat} {l : List UInt8} (h : BM w g b c f n l) (x y : UInt8) :
    It (((w.alloc (.cells #[.pointer (some ⟨g, 0, none⟩)] 25)).alloc (.cells #[.int .u8 (x.toNat : Nat)] 5)).alloc (.cells #[.int .u8 (y.toNat : Nat)] 5)) w.heap.size (w.heap.size + 1) (w.heap.size + 2) g b c f n l x y := by
  refine ⟨h.fr0 ((((Fr.refl _ _).alloc _).alloc _).alloc _), ((Boxed.new w _ _).alloc _).alloc _, ?_, ?_⟩
  · have := Boxed.new (w.alloc (.cells #[.pointer (some ⟨g, 0, none⟩)] 25)) 5 (.int .u8 (x.toNat : Nat))
    rw [World.size_alloc] at this
    exact this.alloc _
  · have := Boxed.new ((w.alloc (.cells #[.pointer (some ⟨g, 0, none⟩)] 25)).alloc (.cells #[.int .u8 (x.toNat : Nat)] 5)) 5 (.int .u8 (y.toNat : Nat))
    rw [World.size_alloc, World.size_alloc] at this
    exact this

set_option maxHeartbeats 1000000 in
theorem Used_any (g b c f n : Nat) (l : List UInt8) (w : World) (h : BM w g b c f n l) :
    Calls Tryd.prog 15 #[.pointer (some ⟨g, 0, none⟩)] w (SomeGrewI w (blkL f l 1 2)) := by
  obtain rfl := h.len
  have hn := h.hn
  have hi := it_new h 1 2
  have hlt := hi.lt
  simp only [World.size_alloc] at hlt
  have HI := Lib.hid hi
  have HL := Lib.hid hlt
  have hs : ∀ w', Below (w.heap.size + 3) _ w' → _ := fun w' hb => in_stops 4 (by omega) _ _ _ g b c f l.length l 1 2 w' (HI.out.keep (Keep.below hb HL.out))
  refine used_walk 15 (some ⟨g, 0, none⟩) 1 2 w f l.length hn (pickF l 1 2 l.length l.length) _ HL.out hs ?_
  intro Q hQ
  have HS := Lib.hid hs
  have HQ := Lib.hid hQ
  clear hs hQ h hi hlt
  go_enter Tryd.func15, Tryd.ntmps15
  go_wp2_with fail
  refine (in_any (some ⟨g, 0, none⟩) 1 2 w).mono ?_
  rintro e w1 ⟨rfl, rfl⟩
  go_wp2_with fail
  refine (collect_in f l.length hn (pickF l 1 2 l.length l.length) _ _ _ _ _ (fun k hk => by have := HL.out k hk; simp; omega) (fun w' hb => HS.out w' (hb.mono (by simp)))).mono ?_
  rintro e w2 ⟨v, rfl, h1, h2⟩
  obtain ⟨A2, n2, c2, rfl, _, _⟩ := own_slice h1
  have H1 := Lib.hid h1
  have H2 := Lib.hid h2
  clear h1 h2
  go_wp2
  exact HQ.out _ _ ⟨_, rfl, by have := H1.out; simp only [World.size_alloc] at this; exact this, by have := H2.out; simp only [World.size_alloc] at this; exact this⟩

set_option maxHeartbeats 1000000 in
theorem Old_any (g b c f n : Nat) (l : List UInt8) (w : World) (h : BM w g b c f n l) :
    Calls Tryd.prog 14 #[.pointer (some ⟨g, 0, none⟩)] w (SomeGrewI w (blkL f l 1 3)) := by
  obtain rfl := h.len
  have hn := h.hn
  have hi := it_new h 1 3
  have hlt := hi.lt
  simp only [World.size_alloc] at hlt
  have HI := Lib.hid hi
  have HL := Lib.hid hlt
  have hs : ∀ w', Below (w.heap.size + 3) _ w' → _ := fun w' hb => in_stops 4 (by omega) _ _ _ g b c f l.length l 1 3 w' (HI.out.keep (Keep.below hb HL.out))
  refine used_walk 14 (some ⟨g, 0, none⟩) 1 3 w f l.length hn (pickF l 1 3 l.length l.length) _ HL.out hs ?_
  intro Q hQ
  have HS := Lib.hid hs
  have HQ := Lib.hid hQ
  clear hs hQ h hi hlt
  go_enter Tryd.func14, Tryd.ntmps14
  go_wp2_with fail
  refine (in_any (some ⟨g, 0, none⟩) 1 3 w).mono ?_
  rintro e w1 ⟨rfl, rfl⟩
  go_wp2_with fail
  refine (collect_in f l.length hn (pickF l 1 3 l.length l.length) _ _ _ _ _ (fun k hk => by have := HL.out k hk; simp; omega) (fun w' hb => HS.out w' (hb.mono (by simp)))).mono ?_
  rintro e w2 ⟨v, rfl, h1, h2⟩
  obtain ⟨A2, n2, c2, rfl, _, _⟩ := own_slice h1
  have H1 := Lib.hid h1
  have H2 := Lib.hid h2
  clear h1 h2
  go_wp2
  exact HQ.out _ _ ⟨_, rfl, by have := H1.out; simp only [World.size_alloc] at this; exact this, by have := H2.out; simp only [World.size_alloc] at this; exact this⟩

set_option maxHeartbeats 1000000 in
theorem Used_nil (w : World) : Calls Tryd.prog 15 #[.pointer none] w (SomeGrewI w []) := by
  have hb1 : Boxed (((w.alloc (.cells #[.pointer none] 25)).alloc (.cells #[.int .u8 ((1 : UInt8).toNat : Nat)] 5)).alloc (.cells #[.int .u8 ((2 : UInt8).toNat : Nat)] 5)) w.heap.size 25 (.pointer none) := ((Boxed.new w _ _).alloc _).alloc _
  have HB := Lib.hid hb1
  have hs : ∀ w', Below (w.heap.size + 3) _ w' → _ := fun w' hb => in_stops_nil 4 w.heap.size (w.heap.size + 1) (w.heap.size + 2) w' ((hb.block w.heap.size (by omega)).trans HB.out)
  refine used_walk 15 none 1 2 w 0 0 (by omega) [] _ (fun k hk => hk.elim) hs ?_
  intro Q hQ
  have HS := Lib.hid hs
  have HQ := Lib.hid hQ
  clear hs hQ hb1
  go_enter Tryd.func15, Tryd.ntmps15
  go_wp2_with fail
  refine (in_any none 1 2 w).mono ?_
  rintro e w1 ⟨rfl, rfl⟩
  go_wp2_with fail
  refine (collect_in 0 0 (by omega) [] _ _ _ _ _ (fun k hk => hk.elim) (fun w' hb => HS.out w' (hb.mono (by simp)))).mono ?_
  rintro e w2 ⟨v, rfl, h1, h2⟩
  obtain ⟨A2, n2, c2, rfl, _, _⟩ := own_slice h1
  have H1 := Lib.hid h1
  have H2 := Lib.hid h2
  clear h1 h2
  go_wp2
  exact HQ.out _ _ ⟨_, rfl, by have := H1.out; simp only [World.size_alloc] at this; exact this, by have := H2.out; simp only [World.size_alloc] at this; exact this⟩

set_option maxHeartbeats 1000000 in
theorem Old_nil (w : World) : Calls Tryd.prog 14 #[.pointer none] w (SomeGrewI w []) := by
  have hb1 : Boxed (((w.alloc (.cells #[.pointer none] 25)).alloc (.cells #[.int .u8 ((1 : UInt8).toNat : Nat)] 5)).alloc (.cells #[.int .u8 ((3 : UInt8).toNat : Nat)] 5)) w.heap.size 25 (.pointer none) := ((Boxed.new w _ _).alloc _).alloc _
  have HB := Lib.hid hb1
  have hs : ∀ w', Below (w.heap.size + 3) _ w' → _ := fun w' hb => in_stops_nil 4 w.heap.size (w.heap.size + 1) (w.heap.size + 2) w' ((hb.block w.heap.size (by omega)).trans HB.out)
  refine used_walk 14 none 1 3 w 0 0 (by omega) [] _ (fun k hk => hk.elim) hs ?_
  intro Q hQ
  have HS := Lib.hid hs
  have HQ := Lib.hid hQ
  clear hs hQ hb1
  go_enter Tryd.func14, Tryd.ntmps14
  go_wp2_with fail
  refine (in_any none 1 3 w).mono ?_
  rintro e w1 ⟨rfl, rfl⟩
  go_wp2_with fail
  refine (collect_in 0 0 (by omega) [] _ _ _ _ _ (fun k hk => hk.elim) (fun w' hb => HS.out w' (hb.mono (by simp)))).mono ?_
  rintro e w2 ⟨v, rfl, h1, h2⟩
  obtain ⟨A2, n2, c2, rfl, _, _⟩ := own_slice h1
  have H1 := Lib.hid h1
  have H2 := Lib.hid h2
  clear h1 h2
  go_wp2
  exact HQ.out _ _ ⟨_, rfl, by have := H1.out; simp only [World.size_alloc] at this; exact this, by have := H2.out; simp only [World.size_alloc] at this; exact this⟩
end Go.Proofs.YtejajafbopabmaaDoor
