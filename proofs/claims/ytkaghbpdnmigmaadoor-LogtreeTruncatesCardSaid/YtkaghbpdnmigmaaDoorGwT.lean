/- Several texts in one. -/
import Derived.MapKept
import Derived.RangeFuncRecord
import Derived.RangeFuncOwn
import Derived.Test.YtkaghbpdnmigmaaDoorNdE
import Derived.Test.YtkaghbpdnmigmaaDoorLtW
import Derived.Test.YtkaghbpdnmigmaaDoorLtK
/- Trees: the roots of complete parts; a map from parts to digests. -/
namespace Go.Proofs.YtkaghbpdnmigmaaDoor
open Go.RowKit

/-! ### The roots of complete parts -/
def partR (ds : List (List UInt8)) : Nat → Nat → List UInt8
  | 0, i => ds.getD i []
  | l + 1, i => nodeD (partR ds l (2 * i)) (partR ds l (2 * i + 1))

theorem partR_root (ds : List (List UInt8)) : ∀ l i, (i + 1) * 2 ^ l ≤ ds.length → 2 ^ l ≤ 1048576 → partR ds l i = rootL ((ds.drop (i * 2 ^ l)).take (2 ^ l))
  | 0, i, h, _ => by
    have hi : i < ds.length := by omega
    simp only [Nat.pow_zero, Nat.mul_one, partR]
    rw [List.drop_eq_getElem_cons hi, List.take_succ_cons, List.take_zero, rootL_one, List.getD_eq_getElem?_getD, List.getElem?_eq_getElem hi]
    rfl
  | l + 1, i, h, hp => by
    have p1 : 1 ≤ 2 ^ l := Nat.one_le_two_pow
    have p2 : 2 ^ (l + 1) = 2 * 2 ^ l := by rw [Nat.pow_succ]; omega
    have e1 : i * 2 ^ (l + 1) = 2 * i * 2 ^ l := by rw [p2, Nat.mul_comm 2 i, Nat.mul_assoc]
    have e2 : (i + 1) * 2 ^ (l + 1) = (2 * i + 1 + 1) * 2 ^ l := by rw [p2, ← Nat.mul_assoc]; congr 1; omega
    have e3 : (2 * i + 1) * 2 ^ l = 2 * i * 2 ^ l + 2 ^ l := by rw [Nat.add_mul, Nat.one_mul]
    have e4 : (2 * i + 1 + 1) * 2 ^ l = 2 * i * 2 ^ l + 2 ^ l + 2 ^ l := by rw [Nat.add_mul, Nat.one_mul, e3]
    rw [e2] at h
    have hl : ((ds.drop (i * 2 ^ (l + 1))).take (2 ^ (l + 1))).length = 2 ^ (l + 1) := by
      rw [List.length_take, List.length_drop]
      omega
    have hn := leftN_of (2 ^ (l + 1)) l (by omega) (by omega) (by omega)
    rw [rootL_more _ _ hl (by omega) (by omega), ← hn, partR, partR_root ds l (2 * i) (by rw [e3]; omega) (by omega), partR_root ds l (2 * i + 1) h (by omega)]
    congr 2
    · rw [List.take_take, e1, show min (2 ^ l) (2 ^ (l + 1)) = 2 ^ l by omega]
    · rw [List.drop_take, List.drop_drop, e1, e3, p2, show 2 * 2 ^ l - 2 ^ l = 2 ^ l by omega]

theorem partR_more (ds : List (List UInt8)) (d : List UInt8) : ∀ l i, (i + 1) * 2 ^ l ≤ ds.length → partR (ds ++ [d]) l i = partR ds l i
  | 0, i, h => by
    have hi : i < ds.length := by omega
    simp only [partR]
    rw [List.getD_eq_getElem?_getD, List.getD_eq_getElem?_getD, List.getElem?_append_left hi]
  | l + 1, i, h => by
    have p2 : 2 ^ (l + 1) = 2 * 2 ^ l := by rw [Nat.pow_succ]; omega
    have e2 : (i + 1) * 2 ^ (l + 1) = (2 * i + 1 + 1) * 2 ^ l := by rw [p2, ← Nat.mul_assoc]; congr 1; omega
    have e3 : (2 * i + 1 + 1) * 2 ^ l = (2 * i + 1) * 2 ^ l + 2 ^ l := by rw [Nat.add_mul, Nat.one_mul]
    rw [e2] at h
    rw [partR, partR, partR_more ds d l (2 * i) (by omega), partR_more ds d l (2 * i + 1) h]
theorem partR_length (ds : List (List UInt8)) (he : ∀ d ∈ ds, d.length = 32) (l i : Nat) (h : (i + 1) * 2 ^ l ≤ ds.length) : (partR ds l i).length = 32 := by
  cases l with
  | zero =>
    have hi : i < ds.length := by omega
    simp only [partR]
    rw [List.getD_eq_getElem?_getD, List.getElem?_eq_getElem hi]
    exact he _ (List.getElem_mem hi)
  | succ l => exact nodeD_length _ _

/-! ### Keys -/
def keyV (l i : Nat) : Value := .agg #[.int .i64 (l : Int), .int .i64 (i : Int)]
theorem keyV_inj {l i l' i' : Nat} (h : keyV l i = keyV l' i') : l = l' ∧ i = i' := by
  unfold keyV at h
  simp only [Value.agg.injEq, Array.mk.injEq, List.cons.injEq, Value.int.injEq, true_and, and_true] at h
  omega
theorem checkKey_part (e : Bool) (l i : Nat) (w : World) : (Instr.checkKey e 10000 110 (keyV l i)).run Tryd.prog w = .ok () w := by kernel_rfl
theorem eqFields_2 {P : Program} (w : World) (d : Nat) (xs ys : Array Value) (f1 f2 : Field) (x1 y1 x2 y2 : Value) (r1 r2 : Bool) (h1 : f1.name ≠ "_") (h2 : f2.name ≠ "_")
    (p1 : (part f1.type xs f1.offset).run P w = .ok x1 w) (q1 : (part f1.type ys f1.offset).run P w = .ok y1 w) (p2 : (part f2.type xs f2.offset).run P w = .ok x2 w) (q2 : (part f2.type ys f2.offset).run P w = .ok y2 w)
    (e1 : (Op.equalIn d f1.type x1 y1).run P w = .ok r1 w) (e2 : (Op.equalIn d f2.type x2 y2).run P w = .ok r2 w) : (Op.eqFields d xs ys [f1, f2]).run P w = .ok (r1 && r2) w := by
  simp only [Op.eqFields, h1, h2, ne_eq, not_false_eq_true, if_true, Sem.run_bind, p1, q1, Result.andThen_ok, e1]
  cases r1
  · simp
  · simp only [Bool.not_true, Bool.false_eq_true, if_false, Sem.run_bind, p2, q2, Result.andThen_ok, e2, Bool.true_and]
    cases r2
    · simp
    · simp
theorem part_fields : (Tryd.prog.fieldsOf 110).toList.map (fun f => (f.name, f.type, f.offset)) = [("level", 3, 0), ("index", 3, 1)] := by kernel_rfl
theorem part_int (a b : Value) (w : World) : (part 3 #[a, b] 0).run Tryd.prog w = .ok a w ∧ (part 3 #[a, b] 1).run Tryd.prog w = .ok b w := by
  have h : (isAgg 3).run Tryd.prog w = .ok false w := by kernel_rfl
  unfold part
  constructor <;> simp [Sem.run_bind, h]
theorem equal_key (l i l' i' : Nat) (w : World) : (Op.equal 110 (keyV l i) (keyV l' i')).run Tryd.prog w = .ok (decide (l = l') && decide (i = i')) w := by
  have hs : Tryd.prog.underlying 110 = some (.struct (Tryd.prog.fieldsOf 110)) := by kernel_rfl
  have hp : Tryd.prog.stoodInHeld 110 = false := by kernel_rfl
  refine (run_equalIn_agg w 9999 _ _ _ hs hp).trans ?_
  have hf := part_fields
  generalize (Tryd.prog.fieldsOf 110).toList = fs at hf
  rcases fs with _ | ⟨f1, _ | ⟨f2, _ | ⟨f3, fr⟩⟩⟩
  · cases hf
  · simp at hf
  · simp only [List.map_cons, List.map_nil, List.cons.injEq, Prod.mk.injEq, and_true] at hf
    obtain ⟨⟨n1, t1, o1⟩, n2, t2, o2⟩ := hf
    have u1 : f1.name ≠ "_" := by rw [n1]; decide
    have u2 : f2.name ≠ "_" := by rw [n2]; decide
    have eb : ∀ a b : Nat, (((a : Int)) == ((b : Int))) = decide (a = b) := fun a b => by
      rw [Bool.eq_iff_iff]
      simp
      omega
    refine eqFields_2 w 9999 _ _ f1 f2 (.int .i64 (l : Int)) (.int .i64 (l' : Int)) (.int .i64 (i : Int)) (.int .i64 (i' : Int)) _ _ u1 u2 ?_ ?_ ?_ ?_ ?_ ?_
    · rw [t1, o1]; exact (part_int _ _ w).1
    · rw [t1, o1]; exact (part_int _ _ w).1
    · rw [t2, o2]; exact (part_int _ _ w).2
    · rw [t2, o2]; exact (part_int _ _ w).2
    · rw [t1, ← eb]; exact run_equalIn_int w 9998 _ .i64 .i64 _ _ Tryd.underlying3
    · rw [t2, ← eb]; exact run_equalIn_int w 9998 _ .i64 .i64 _ _ Tryd.underlying3
  · simp at hf

/-! ### The map -/
def EntryOk (ds : List (List UInt8)) (C : Nat → Nat → Prop) (e : MapEntry) : Prop := ∃ l i, e.key = keyV l i ∧ e.val = digV (partR ds l i) ∧ C l i
/-- Stamps are apart and below the clock; keys are apart. -/
def Stamp (es : Array MapEntry) (clock : Nat) : Prop := (∀ e ∈ es.toList, e.born < clock) ∧ (es.toList.map (·.born)).Nodup ∧ es.toList.Pairwise (fun x y => x.key ≠ y.key)
theorem Stamp.empty (clock : Nat) : Stamp #[] clock := ⟨fun e he => (by simp at he), by simp, by simp⟩
theorem Stamp.push {es : Array MapEntry} {clock : Nat} (h : Stamp es clock) (k v : Value) (hk : ∀ e ∈ es.toList, e.key ≠ k) : Stamp (es.push { key := k, val := v, born := clock }) (clock + 1) := by
  obtain ⟨h1, h2, h3⟩ := h
  refine ⟨fun e he => ?_, ?_, ?_⟩
  · rw [Array.toList_push, List.mem_append] at he
    rcases he with he | he
    · have := h1 e he
      omega
    · rw [List.mem_singleton] at he
      subst he
      exact Nat.lt_succ_self _
  · rw [Array.toList_push, List.map_append, List.nodup_append]
    refine ⟨h2, by simp, fun x hx y hy => ?_⟩
    obtain ⟨e, he, rfl⟩ := List.mem_map.1 hx
    simp only [List.map_cons, List.map_nil, List.mem_singleton] at hy
    subst hy
    exact Nat.ne_of_lt (h1 e he)
  · rw [Array.toList_push, List.pairwise_append]
    refine ⟨h3, by simp, fun x hx y hy => ?_⟩
    rw [List.mem_singleton] at hy
    subst hy
    exact hk x hx
def PartM (w : World) (b : Nat) (ds : List (List UInt8)) (C : Nat → Nat → Prop) : Prop :=
  ∃ es clock, w.heap[b]? = some (.map es clock) ∧ (∀ e ∈ es.toList, EntryOk ds C e) ∧ (∀ l i, C l i → ∃ e ∈ es.toList, e.key = keyV l i) ∧ Stamp es clock
theorem PartM.fr {w w' : World} {T : Nat → Prop} {b : Nat} {ds : List (List UInt8)} {C : Nat → Nat → Prop} (h : PartM w b ds C) (hf : Fr T w w') (hb : ¬ T b) : PartM w' b ds C := by
  obtain ⟨es, clock, h1, h2, h3, h4⟩ := h
  exact ⟨es, clock, (hf.block b (Array.getElem?_eq_some_iff.1 h1).1 hb).trans h1, h2, h3, h4⟩
theorem PartM.lt {w : World} {b : Nat} {ds : List (List UInt8)} {C : Nat → Nat → Prop} (h : PartM w b ds C) : b < w.heap.size := by
  obtain ⟨es, clock, h1, _⟩ := h
  exact (Array.getElem?_eq_some_iff.1 h1).1
theorem PartM.more {w : World} {b : Nat} {ds : List (List UInt8)} {C : Nat → Nat → Prop} (h : PartM w b ds C) (d : List UInt8) (hC : ∀ l i, C l i → (i + 1) * 2 ^ l ≤ ds.length) : PartM w b (ds ++ [d]) C := by
  obtain ⟨es, clock, h1, h2, h3, h4⟩ := h
  refine ⟨es, clock, h1, fun e he => ?_, h3, h4⟩
  obtain ⟨l, i, k1, k2, k3⟩ := h2 e he
  exact ⟨l, i, k1, by rw [k2, partR_more ds d l i (hC l i k3)], k3⟩

theorem find_hit (ds : List (List UInt8)) (C : Nat → Nat → Prop) (l i : Nat) (w : World) : ∀ (es : List MapEntry) (k : Nat), (∀ e ∈ es, EntryOk ds C e) → (∃ e ∈ es, e.key = keyV l i) →
    ∃ j, (Instr.findAsking 110 (keyV l i) es k).run Tryd.prog w = .ok (some (j, digV (partR ds l i))) w
  | [], _, _, h => by obtain ⟨e, he, _⟩ := h; cases he
  | e :: es, k, hok, h => by
    obtain ⟨l', i', k1, k2, k3⟩ := hok e (by simp)
    by_cases hh : l = l' ∧ i = i'
    · obtain ⟨rfl, rfl⟩ := hh
      refine ⟨k, ?_⟩
      simp only [Instr.findAsking, Sem.run_bind, k1, equal_key, Result.andThen_ok, decide_true, Bool.and_self, if_true, k2, Sem.run_pure]
    · obtain ⟨e', he', hk⟩ := h
      have hne : (decide (l = l') && decide (i = i')) = false := by
        by_cases h1 : l = l'
        · rw [decide_eq_false (show ¬ i = i' from fun h2 => hh ⟨h1, h2⟩), Bool.and_false]
        · rw [decide_eq_false h1, Bool.false_and]
      rcases List.mem_cons.1 he' with rfl | he'
      · rw [k1] at hk
        obtain ⟨a, b⟩ := keyV_inj hk
        exact absurd ⟨a.symm, b.symm⟩ hh
      · obtain ⟨j, hj⟩ := find_hit ds C l i w es (k + 1) (fun x hx => hok x (by simp [hx])) ⟨e', he', hk⟩
        refine ⟨j, ?_⟩
        simp only [Instr.findAsking, Sem.run_bind, k1, equal_key, Result.andThen_ok, hne, Bool.false_eq_true, if_false]
        exact hj
theorem find_miss (ds : List (List UInt8)) (C : Nat → Nat → Prop) (l i : Nat) (w : World) (hC : ¬ C l i) : ∀ (es : List MapEntry) (k : Nat), (∀ e ∈ es, EntryOk ds C e) →
    (Instr.findAsking 110 (keyV l i) es k).run Tryd.prog w = .ok none w
  | [], _, _ => by simp [Instr.findAsking]
  | e :: es, k, hok => by
    obtain ⟨l', i', k1, k2, k3⟩ := hok e (by simp)
    have hne : (decide (l = l') && decide (i = i')) = false := by
      by_cases h1 : l = l'
      · by_cases h2 : i = i'
        · subst h1 h2
          exact absurd k3 hC
        · rw [decide_eq_false h2, Bool.and_false]
      · rw [decide_eq_false h1, Bool.false_and]
    simp only [Instr.findAsking, Sem.run_bind, k1, equal_key, Result.andThen_ok, hne, Bool.false_eq_true, if_false]
    exact find_miss ds C l i w hC es (k + 1) (fun x hx => hok x (by simp [hx]))

theorem und_part : ∃ fs, Tryd.prog.underlying 110 = some (.struct fs) := ⟨_, Tryd.underlying110⟩
theorem findKey_part (k : Value) (es : List MapEntry) (w : World) (r : Option (Nat × Value)) (h : (Instr.findAsking 110 k es 0).run Tryd.prog w = .ok r w) : (Instr.findKey 110 k es).run Tryd.prog w = .ok r w := by
  obtain ⟨fs, hu⟩ := und_part
  unfold Instr.findKey
  simp only [Sem.run_bind, run_underlying hu, Result.andThen_ok]
  cases es with
  | nil =>
    simp only [Instr.findAsking, Sem.run_pure] at h
    simpa [Instr.findNow] using h
  | cons e es =>
    simp only [Instr.findNow, Instr.sameNow]
    exact h
theorem und_map : Tryd.prog.underlying 100 = some (.map 110 24) := Tryd.underlying100
theorem run_lookup_part {w : World} {b : Nat} {ds : List (List UInt8)} {C : Nat → Nat → Prop} (h : PartM w b ds C) (l i : Nat) (hC : C l i) : (Instr.lookup 100 (.map (some b)) (keyV l i) false).run Tryd.prog w = .ok (digV (partR ds l i)) w := by
  obtain ⟨es, clock, h1, h2, h3, _⟩ := h
  obtain ⟨j, hj⟩ := find_hit ds C l i w es.toList 0 h2 (h3 l i hC)
  unfold Instr.lookup
  simp only [Sem.run_bind, run_underlying und_map, Result.andThen_ok, MapKept.run_getObj_map h1, Sem.run_pure, checkKey_part, findKey_part _ _ _ _ hj, Bool.false_eq_true, if_false]
theorem run_update_part {w : World} {b : Nat} {ds : List (List UInt8)} {C : Nat → Nat → Prop} (h : PartM w b ds C) (l i : Nat) (hC : ¬ C l i) (v : Value) (hv : v = digV (partR ds l i)) (C' : Nat → Nat → Prop) (hC' : ∀ l' i', C' l' i' ↔ C l' i' ∨ (l' = l ∧ i' = i)) :
    ∃ w', (Instr.mapUpdate 100 (.map (some b)) (keyV l i) v).run Tryd.prog w = .ok () w' ∧ PartM w' b ds C' ∧ Fr (fun k => k = b) w w' := by
  obtain ⟨es, clock, h1, h2, h3, h4⟩ := h
  have hj := find_miss ds C l i w hC es.toList 0 h2
  refine ⟨w.putObj b (.map (es.push { key := keyV l i, val := v, born := clock }) (clock + 1)), ?_, ?_, ?_⟩
  · unfold Instr.mapUpdate
    simp only [Sem.run_bind, run_underlying und_map, Result.andThen_ok, MapKept.run_getObj_map h1, checkKey_part, findKey_part _ _ _ _ hj, MapKept.run_setObj_map _ h1]
    rfl
  · have hb := (Array.getElem?_eq_some_iff.1 h1).1
    refine ⟨es.push { key := keyV l i, val := v, born := clock }, clock + 1, ?_, fun e he => ?_, fun l' i' hc => ?_, h4.push _ _ fun e he hk => ?_⟩
    · show (w.heap.setIfInBounds b _)[b]? = _
      rw [Array.getElem?_setIfInBounds_self_of_lt hb]
    · rw [Array.toList_push, List.mem_append] at he
      rcases he with he | he
      · obtain ⟨l', i', k1, k2, k3⟩ := h2 e he
        exact ⟨l', i', k1, k2, (hC' _ _).2 (.inl k3)⟩
      · simp only [List.mem_singleton] at he
        subst he
        exact ⟨l, i, rfl, hv, (hC' _ _).2 (.inr ⟨rfl, rfl⟩)⟩
    · rw [Array.toList_push]
      rcases (hC' _ _).1 hc with hc | ⟨rfl, rfl⟩
      · obtain ⟨e, he, hk⟩ := h3 l' i' hc
        exact ⟨e, List.mem_append_left _ he, hk⟩
      · exact ⟨_, List.mem_append_right _ (List.mem_singleton.2 rfl), rfl⟩
    · obtain ⟨l', i', k1, _, k3⟩ := h2 e he
      rw [k1] at hk
      obtain ⟨rfl, rfl⟩ := keyV_inj hk
      exact hC k3
  · exact (Fr.grown (grownBy_putObj' w b _)).mono (fun k _ hk => by simpa using hk)
end Go.Proofs.YtkaghbpdnmigmaaDoor

/- A tree in memory; complete (written by genTrB.py). -/
namespace Go.Proofs.YtkaghbpdnmigmaaDoor
open Go.RowKit

/-- The tree at p has the leaves ds, and just the parts of C in its map. -/
structure TreeC (w : World) (p : Nat) (A : Option Addr) (n c : Nat) (mb : Option Nat) (ds : List (List UInt8)) (C : Nat → Nat → Prop) : Prop where
  blk : Blk w p 102 #[.slice A n c, .map mb]
  row : w.ownsRow 0 24 32 (.slice A n c) n (ds.flatMap digC)
  len : ds.length = n
  each : ∀ d ∈ ds, d.length = 32
  parts : (∃ b, mb = some b ∧ PartM w b ds C) ∨ (mb = none ∧ ∀ l i, ¬ C l i)
theorem TreeC.fr0 {w w' : World} {p : Nat} {A : Option Addr} {n c : Nat} {mb : Option Nat} {ds : List (List UInt8)} {C : Nat → Nat → Prop} (h : TreeC w p A n c mb ds C) (hf : Fr Nothing w w') : TreeC w' p A n c mb ds C :=
  ⟨h.blk.fr hf (fun x => x), own_fr h.row hf (fun _ _ x => x), h.len, h.each, by
    rcases h.parts with ⟨b, hb, hp⟩ | h0
    · exact .inl ⟨b, hb, hp.fr hf (fun x => x)⟩
    · exact .inr h0⟩
theorem TreeC.dig {w : World} {p : Nat} {A : Option Addr} {n c : Nat} {mb : Option Nat} {ds : List (List UInt8)} {C : Nat → Nat → Prop} (h : TreeC w p A n c mb ds C) : DigL w (Rows1 (.slice A n c)) A n ds := ⟨Rd.of_own h.row, h.len, h.each⟩
theorem TreeC.part {w : World} {p : Nat} {A : Option Addr} {n c : Nat} {mb : Option Nat} {ds : List (List UInt8)} {C : Nat → Nat → Prop} (h : TreeC w p A n c mb ds C) {l i : Nat} (hC : C l i) : ∃ b, mb = some b ∧ PartM w b ds C := by
  rcases h.parts with h1 | ⟨_, h0⟩
  · exact h1
  · exact absurd hC (h0 l i)

theorem wp_lookupP {o : Oper} {a : Act} {w : World} {K : Act → World → Prop} {Q : Exit → Act → World → Prop} (m x : Operand) (ho : o.op = .lookup 100 m x false)
    {mv kv v : Value} (hm : a.eval m = mv) (hx : a.eval x = kv) (hr : (Instr.lookup 100 mv kv false).run Tryd.prog w = .ok v w) (h : K (a.put o.dst v) w) : o.wp Tryd.prog a w K Q := by
  unfold Oper.wp execOp
  simp only [ho, hm, hx, Sem.run_bind, hr, Result.andThen_ok]
  exact h

set_option maxRecDepth 100000 in
set_option maxHeartbeats 2000000 in
theorem complete_any (p : Nat) (A : Option Addr) (n c : Nat) (mb : Option Nat) (ds : List (List UInt8)) (C : Nat → Nat → Prop) (l i : Nat) (w : World) (hT : TreeC w p A n c mb ds C) (h1 : (i + 1) * 2 ^ l ≤ n) (h2 : l ≠ 0 → C l i) (_hl : l ≤ 64) (hn : n ≤ 1048576) :
    Calls Tryd.prog 66 #[.pointer (some ⟨p, 0, none⟩), keyV l i] w (Same' w (digV (partR ds l i))) := by
  have lp : (partR ds l i).length = 32 := partR_length ds hT.each l i (by rw [hT.len]; exact h1)
  have hin : i < n := by
    have : 1 ≤ 2 ^ l := Nat.one_le_two_pow
    have : (i + 1) * 1 ≤ (i + 1) * 2 ^ l := Nat.mul_le_mul_left _ this
    omega
  have DP : Hid (Dig (digC (partR ds l i)).toArray) := Dig.of lp
  have IPV : Hid ((Tryd.prog.info? 24).map (·.size) = some (digC (partR ds l i)).length) := by rw [digC, List.length_map, lp]; exact infoD
  have i4 : i ≤ 1048576 := by omega
  by_cases h0 : l = 0
  · obtain ⟨ad, d, rfl, _, hd, _, hc⟩ := hT.dig.at_ hin
    have hdp : d = partR ds l i := by
      rw [h0]
      simp only [partR]
      rw [List.getD_eq_getElem?_getD, hd]
      rfl
    rw [hdp] at hc
    have HC0 := Lib.hid hc
    have P00 : Hid (w.cell? ⟨p, 0, none⟩ = some (.slice (some ad) n c)) := hT.blk.cell 0
    have hiI : (i : Int) < (n : Int) := by omega
    have t0 : ((l : Int) == 0) = true := by rw [h0]; rfl
    unfold digV
    rw [show ∀ x : List UInt8, x.map bvI = digC x from fun _ => rfl]
    generalize digC (partR ds l i) = PV at *
    clear hT hd hdp hc lp h1 h2 h0
    change Calls _ _ #[_, .agg #[.int .i64 (l : Int), .int .i64 (i : Int)]] _ _
    go_enter Tryd.func66, Tryd.ntmps66
    go_wp2_with (refine wpList_boxBlk rfl 110 (.tmp 1) rfl _ rfl ?_)
    intro w1 n1
    have N1 := Lib.hid n1
    clear n1
    go_wp2_with (refine wpList_allocBlk rfl 24 rfl zero32 zvD zero32c rfl ?_)
    intro w2 n2
    have B3 : Hid (Blk w2 w.heap.size 110 #[.int .i64 (l : Int), .int .i64 (i : Int)]) := N1.out.blk.fr n2.fr (fun x => x)
    have B4 := Lib.hid n2.blk
    have F2 := Lib.hid (N1.out.fr.trans n2.fr)
    have G4 : Hid (w.heap.size ≤ w1.heap.size) := N1.out.fr.size
    have I0 : Hid (w2.cell? ⟨w.heap.size, 0, none⟩ = some (.int .i64 l)) := B3.out.cell 0
    have I1 : Hid (w2.cell? ⟨w.heap.size, 1, none⟩ = some (.int .i64 i)) := B3.out.cell 1
    clear n2 N1 B3
    generalize hg3 : w.heap.size = g3 at *
    have HG3 := Lib.hid hg3
    clear hg3
    generalize w1.heap.size = g4 at *
    have i0 := I0.out
    have P0 : Hid (w2.cell? ⟨p, 0, none⟩ = some (.slice (some ad) n c)) := F2.out.cellSome P00.out (fun x => x)
    have HC : Hid (∀ j v, PV[j]? = some v → w2.cell? ((ad.add (i * 32)).add j) = some v) := fun j v hv => F2.out.cellSome (HC0.out j v hv) (fun x => x)
    go_upto_region 2 with fail
    clear i0
    refine wp_region_st 8 Nothing [Is (.pointer (some ⟨p, 0, none⟩)), Is (.pointer (some ⟨p, 0, none⟩)), Is (.pointer (some ⟨p, 0, none⟩)), Is (.slice (some ad) n c), Is (.pointer (some ⟨g3, 1, none⟩)), Is (.int .i64 i), Is (.pointer (some (ad.add (i * 32)))), Is (.agg PV.toArray)] [] (fun _ => True) (fun _ _ => false) (by kernel_rfl) (by kernel_rfl) (by kernel_rfl) (by kernel_rfl) ⟨Is.stable _, Is.stable _, Is.stable _, Is.stable _, Is.stable _, Is.stable _, Is.stable _, Is.stable _, trivial⟩ trivial (fun _ _ _ _ h => h) trivial ?_ ?_
    · refine ⟨fun u w' d hf hR k1 k0 kM => ?_, fun u w' d hf hR k1 k0 kM => ?_, fun u w' d hf hR k1 k0 kM => ?_, fun u w' d hf hR k1 k0 kM => ?_, fun u w' d hf hR k1 k0 kM => ?_, fun u w' d hf hR k1 k0 kM => ?_, fun u w' d hf hR k1 k0 kM => ?_, fun u w' d hf hR k1 k0 kM => ?_, trivial⟩
      all_goals simp only [List.take_succ_cons, List.take_zero, List.map_cons, List.map_nil, puts, Act.put, List.setIfInBounds_toArray, List.set_cons_zero, List.set_cons_succ, Nat.reduceAdd, Nat.zero_add]
      · clear hR k1 k0 kM
        refine .inl ⟨by kernel_rfl, ?_⟩
        go_simp
        exact ⟨_, rfl, Fr.refl _ _, rfl, trivial⟩
      · have h0 : u 0 = _ := hR 0 (by kernel_rfl)
        clear hR k1 k0 kM
        simp only [h0]
        refine .inl ⟨by kernel_rfl, ?_⟩
        go_simp
        exact ⟨_, rfl, Fr.refl _ _, rfl, trivial⟩
      · have h1 : u 1 = _ := hR 1 (by kernel_rfl)
        clear hR k1 k0 kM
        simp only [h1]
        refine .inl ⟨by kernel_rfl, ?_⟩
        go_simp
        exact ⟨_, rfl, Fr.refl _ _, rfl, trivial⟩
      · have h2 : u 2 = _ := hR 2 (by kernel_rfl)
        clear hR k1 k0 kM
        simp only [h2]
        refine .inl ⟨by kernel_rfl, ?_⟩
        have hc := hf.cellSome P0.out (fun x => x)
        go_simp
        exact ⟨_, rfl, Fr.refl _ _, rfl, trivial⟩
      · clear hR k1 k0 kM
        refine .inl ⟨by kernel_rfl, ?_⟩
        go_simp
        exact ⟨_, rfl, Fr.refl _ _, rfl, trivial⟩
      · have h4 : u 4 = _ := hR 4 (by kernel_rfl)
        clear hR k1 k0 kM
        simp only [h4]
        refine .inl ⟨by kernel_rfl, ?_⟩
        have hc := hf.cellSome I1.out (fun x => x)
        go_simp
        exact ⟨_, rfl, Fr.refl _ _, rfl, trivial⟩
      · have h3 : u 3 = _ := hR 3 (by kernel_rfl)
        have h5 : u 5 = _ := hR 5 (by kernel_rfl)
        clear hR k1 k0 kM
        simp only [h3, h5]
        refine .inl ⟨by kernel_rfl, ?_⟩
        go_simp
        exact ⟨_, rfl, Fr.refl _ _, rfl, trivial⟩
      · have h6 : u 6 = _ := hR 6 (by kernel_rfl)
        clear hR k1 k0 kM
        simp only [h6]
        refine .inl ⟨by kernel_rfl, ?_⟩
        exact wp_load_add _ _ rfl (ad.add (i * 32)) rfl PV _ (fun j v hv => hf.cellSome (HC.out j v hv) (fun x => x)) Tryd.underlying24 rfl IPV.out ⟨_, rfl, Fr.refl _ _, rfl, trivial⟩
    · intro u w' hf hR kM
      have h7 : u 7 = _ := hR 7 (by omega)
      have B4' := Lib.hid (B4.out.fr hf (fun x => x))
      have F3 := Lib.hid (F2.out.trans hf)
      clear hR kM hf
      simp only [List.take_succ_cons, List.take_zero, List.map_cons, List.map_nil, puts, Act.put, List.setIfInBounds_toArray, List.set_cons_zero, List.set_cons_succ, List.drop_succ_cons, List.drop_zero, Nat.reduceAdd, Nat.zero_add, h7]
      refine wpList_storeBlk rfl 24 (.tmp 4) _ rfl g4 PV.toArray rfl rfl _ _ B4'.out DP.out.info DP.out.zero DP.out.one ?_
      intro wz b5 f5
      have J4 := Lib.hid b5
      have JF : Hid (Fr Nothing w wz) := F3.out.then_ f5 (fun i hi e => by have e' : i = g4 := e; have := G4.out; have := HG3.out; omega)
      clear b5 f5
      go_wp2
      exact bodyPost_ret (results_cell_row (fn := Tryd.f66) (p := 4) (ty := 24) Tryd.results66 _ wz _ 24 PV.toArray (0, 0) _ rfl J4.out Tryd.underlying24 rfl DP.out.info) rfl ⟨rfl, JF.out⟩
  · obtain ⟨b, rfl, hP⟩ := hT.part (h2 h0)
    have HL0 : Hid (∀ w', Fr Nothing w w' → (Instr.lookup 100 (.map (some b)) (keyV l i) false).run Tryd.prog w' = .ok (.agg (digC (partR ds l i)).toArray) w') := fun w' hf => run_lookup_part (hP.fr hf (fun x => x)) l i (h2 h0)
    have P01 : Hid (w.cell? ⟨p, 1, none⟩ = some (.map (some b))) := hT.blk.cell 1
    have t0 : ((l : Int) == 0) = false := by rw [beq_eq_false_iff_ne]; omega
    unfold digV
    rw [show ∀ x : List UInt8, x.map bvI = digC x from fun _ => rfl]
    generalize digC (partR ds l i) = PV at *
    clear hT lp h1 h2 hP
    change Calls _ _ #[_, .agg #[.int .i64 (l : Int), .int .i64 (i : Int)]] _ _
    go_enter Tryd.func66, Tryd.ntmps66
    go_wp2_with (refine wpList_boxBlk rfl 110 (.tmp 1) rfl _ rfl ?_)
    intro w1 n1
    have N1 := Lib.hid n1
    clear n1
    go_wp2_with (refine wpList_allocBlk rfl 24 rfl zero32 zvD zero32c rfl ?_)
    intro w2 n2
    have B3 : Hid (Blk w2 w.heap.size 110 #[.int .i64 (l : Int), .int .i64 (i : Int)]) := N1.out.blk.fr n2.fr (fun x => x)
    have B4 := Lib.hid n2.blk
    have F2 := Lib.hid (N1.out.fr.trans n2.fr)
    have G4 : Hid (w.heap.size ≤ w1.heap.size) := N1.out.fr.size
    have I0 : Hid (w2.cell? ⟨w.heap.size, 0, none⟩ = some (.int .i64 l)) := B3.out.cell 0
    have I1 : Hid (w2.cell? ⟨w.heap.size, 1, none⟩ = some (.int .i64 i)) := B3.out.cell 1
    clear n2 N1 B3
    generalize hg3 : w.heap.size = g3 at *
    have HG3 := Lib.hid hg3
    clear hg3
    generalize w1.heap.size = g4 at *
    have i0 := I0.out
    have P1 : Hid (w2.cell? ⟨p, 1, none⟩ = some (.map (some b))) := F2.out.cellSome P01.out (fun x => x)
    have HL : Hid (∀ w', Fr Nothing w2 w' → (Instr.lookup 100 (.map (some b)) (keyV l i) false).run Tryd.prog w' = .ok (.agg PV.toArray) w') := fun w' hf => HL0.out _ (F2.out.trans hf)
    go_upto_region 3 with fail
    clear i0
    refine wp_region_st 6 Nothing [Is (.pointer (some ⟨p, 0, none⟩)), Is (.pointer (some ⟨p, 0, none⟩)), Is (.pointer (some ⟨p, 1, none⟩)), Is (.map (some b)), Is (keyV l i), Is (.agg PV.toArray)] [] (fun _ => True) (fun _ _ => false) (by kernel_rfl) (by kernel_rfl) (by kernel_rfl) (by kernel_rfl) ⟨Is.stable _, Is.stable _, Is.stable _, Is.stable _, Is.stable _, Is.stable _, trivial⟩ trivial (fun _ _ _ _ h => h) trivial ?_ ?_
    · refine ⟨fun u w' d hf hR k1 k0 kM => ?_, fun u w' d hf hR k1 k0 kM => ?_, fun u w' d hf hR k1 k0 kM => ?_, fun u w' d hf hR k1 k0 kM => ?_, fun u w' d hf hR k1 k0 kM => ?_, fun u w' d hf hR k1 k0 kM => ?_, trivial⟩
      all_goals simp only [List.take_succ_cons, List.take_zero, List.map_cons, List.map_nil, puts, Act.put, List.setIfInBounds_toArray, List.set_cons_zero, List.set_cons_succ, Nat.reduceAdd, Nat.zero_add]
      · clear hR k1 k0 kM
        refine .inl ⟨by kernel_rfl, ?_⟩
        go_simp
        exact ⟨_, rfl, Fr.refl _ _, rfl, trivial⟩
      · have h0 : u 0 = _ := hR 0 (by kernel_rfl)
        clear hR k1 k0 kM
        simp only [h0]
        refine .inl ⟨by kernel_rfl, ?_⟩
        go_simp
        exact ⟨_, rfl, Fr.refl _ _, rfl, trivial⟩
      · have h1 : u 1 = _ := hR 1 (by kernel_rfl)
        clear hR k1 k0 kM
        simp only [h1]
        refine .inl ⟨by kernel_rfl, ?_⟩
        go_simp
        exact ⟨_, rfl, Fr.refl _ _, rfl, trivial⟩
      · have h2 : u 2 = _ := hR 2 (by kernel_rfl)
        clear hR k1 k0 kM
        simp only [h2]
        refine .inl ⟨by kernel_rfl, ?_⟩
        have hc := hf.cellSome P1.out (fun x => x)
        go_simp
        exact ⟨_, rfl, Fr.refl _ _, rfl, trivial⟩
      · clear hR k1 k0 kM
        refine .inl ⟨by kernel_rfl, ?_⟩
        have hc := hf.cellSome I0.out (fun x => x)
        have hc2 := hf.cellSome I1.out (fun x => x)
        go_simp
        exact ⟨_, rfl, Fr.refl _ _, rfl, trivial⟩
      · have h3 : u 3 = _ := hR 3 (by kernel_rfl)
        have h4 : u 4 = _ := hR 4 (by kernel_rfl)
        clear hR k1 k0 kM
        simp only [h3, h4]
        refine .inl ⟨by kernel_rfl, ?_⟩
        exact wp_lookupP _ _ rfl rfl rfl (HL.out _ hf) ⟨_, rfl, Fr.refl _ _, rfl, trivial⟩
    · intro u w' hf hR kM
      have h5 : u 5 = _ := hR 5 (by omega)
      have B4' := Lib.hid (B4.out.fr hf (fun x => x))
      have F3 := Lib.hid (F2.out.trans hf)
      clear hR kM hf
      simp only [List.take_succ_cons, List.take_zero, List.map_cons, List.map_nil, puts, Act.put, List.setIfInBounds_toArray, List.set_cons_zero, List.set_cons_succ, List.drop_succ_cons, List.drop_zero, Nat.reduceAdd, Nat.zero_add, h5]
      refine wpList_storeBlk rfl 24 (.tmp 4) _ rfl g4 PV.toArray rfl rfl _ _ B4'.out DP.out.info DP.out.zero DP.out.one ?_
      intro wz b5 f5
      have J4 := Lib.hid b5
      have JF : Hid (Fr Nothing w wz) := F3.out.then_ f5 (fun i hi e => by have e' : i = g4 := e; have := G4.out; have := HG3.out; omega)
      clear b5 f5
      go_wp2
      exact bodyPost_ret (results_cell_row (fn := Tryd.f66) (p := 4) (ty := 24) Tryd.results66 _ wz _ 24 PV.toArray (0, 0) _ rfl J4.out Tryd.underlying24 rfl DP.out.info) rfl ⟨rfl, JF.out⟩
end Go.Proofs.YtkaghbpdnmigmaaDoor

/- Tree: root. -/
namespace Go.Proofs.YtkaghbpdnmigmaaDoor
open Go.RowKit

def Full (C : Nat → Nat → Prop) (n : Nat) : Prop := ∀ l i, l ≠ 0 → (i + 1) * 2 ^ l ≤ n → C l i
def RootAt (m : Nat) : Prop := ∀ (w : World) (p : Nat) (A : Option Addr) (n c : Nat) (mb : Option Nat) (ds : List (List UInt8)) (C : Nat → Nat → Prop) (f k : Nat), TreeC w p A n c mb ds C → Full C n → n ≤ 1048576 → ShaTab w → 1 ≤ m → f + m ≤ n → m ≤ 2 ^ k → 2 ^ k ∣ f →
  Calls Tryd.prog 61 #[.pointer (some ⟨p, 0, none⟩), .int .i64 f, .int .i64 m] w (Same' w (digV (rootL ((ds.drop f).take m))))

theorem bits_of (m : Nat) (h1 : 1 ≤ m) (hm : m ≤ 1048576) : ∃ lv, Lib.bitLen m = lv + 1 ∧ 2 ^ lv ≤ m ∧ m < 2 * 2 ^ lv ∧ lv ≤ 40 := by
  obtain ⟨a, b, c⟩ := Lib.bitLenAux_bounds 64 m (by omega) (by omega)
  refine ⟨Lib.bitLen m - 1, by unfold Lib.bitLen; omega, b, ?_, ?_⟩
  · have h : Lib.bitLen m = (Lib.bitLen m - 1) + 1 := by unfold Lib.bitLen; omega
    have c' : m < 2 ^ Lib.bitLen m := c
    rw [h, Nat.pow_succ] at c'
    omega
  · rcases Nat.lt_or_ge 40 (Lib.bitLen m - 1) with h | h
    · have : 2 ^ 41 ≤ 2 ^ (Lib.bitLen m - 1) := Nat.pow_le_pow_right (by omega) h
      have b' : 2 ^ (Lib.bitLen m - 1) ≤ m := b
      omega
    · exact h

theorem dvd_pow_le {a b f : Nat} (h : a ≤ b) (hd : 2 ^ b ∣ f) : 2 ^ a ∣ f := Nat.dvd_trans (Nat.pow_dvd_pow 2 h) hd
theorem pow_lt_exp {a b : Nat} (h : 2 ^ a ≤ 2 ^ b) : a ≤ b := by
  rcases Nat.lt_or_ge b a with h' | h'
  · have := Nat.pow_lt_pow_right (a := 2) (by omega) h'
    omega
  · exact h'

set_option maxRecDepth 100000 in
set_option maxHeartbeats 2000000 in
theorem root_pow (m lv : Nat) (hlv : Lib.bitLen m = lv + 1) (hm : m = 2 ^ lv) (l40 : lv ≤ 40) : RootAt m := by
  intro w p A n c mb ds C f k hT hF hn hS h1 hfm hmk hdv
  obtain ⟨i, rfl⟩ : ∃ i, f = i * 2 ^ lv := by
    obtain ⟨q, hq⟩ := dvd_pow_le (pow_lt_exp (by rw [← hm]; exact hmk)) hdv
    exact ⟨q, by rw [hq, Nat.mul_comm]⟩
  have hi : (i + 1) * 2 ^ lv ≤ n := by rw [Nat.add_mul, Nat.one_mul, ← hm] at *; exact hfm
  have e := partR_root ds lv i (by rw [hT.len]; exact hi) (by omega)
  rw [hm, ← e]
  have lp : (partR ds lv i).length = 32 := partR_length ds hT.each lv i (by rw [hT.len]; exact hi)
  have CC : Hid (∀ w', Fr Nothing w w' → Calls Tryd.prog 66 #[.pointer (some ⟨p, 0, none⟩), .agg #[.int .i64 (lv : Int), .int .i64 (i : Int)]] w' (Same' w' (digV (partR ds lv i)))) :=
    fun w' hf => complete_any p A n c mb ds C lv i w' (hT.fr0 hf) hi (fun h => hF lv i h hi) (by omega) hn
  have DP : Hid (Dig (digC (partR ds lv i)).toArray) := Dig.of lp
  have CB : Hid (∀ w, Calls Tryd.prog 80 #[.int .u64 (m : Int)] w fun e w' => e = .returned (.int .i64 (Lib.bitLen m : Nat)) ∧ w' = w) := fun w => Tryd.bits_Len (m : Int) w (by omega) (by omega)
  rw [hlv, hm] at CB
  obtain ⟨P, hP⟩ : ∃ P, P = 2 ^ lv := ⟨_, rfl⟩
  obtain ⟨fv, hfv⟩ : ∃ fv, fv = i * 2 ^ lv := ⟨_, rfl⟩
  have hshr : (fv : Int) / ((2 ^ lv : Nat) : Int) = (i : Int) := by
    have : fv / 2 ^ lv = i := by rw [hfv]; exact Nat.mul_div_cancel _ Nat.one_le_two_pow
    omega
  have hpw : IntKind.i64.wrap (1 * 2 ^ lv) = ((P : Nat) : Int) := by
    rw [hP, Int.one_mul]
    have : (2 : Int) ^ lv = ((2 ^ lv : Nat) : Int) := by simp
    rw [this]
    exact IntWalk.i64_in _ (by omega)
  have hpw2 : IntKind.i64.wrap (2 ^ lv) = ((P : Nat) : Int) := by rw [← hpw, Int.one_mul]
  have lv1 : ((lv + 1 : Nat) : Int) - 1 = (lv : Int) := by omega
  have hshr2 : (fv : Int) / 2 ^ lv = (i : Int) := by rw [← hshr]; simp
  rw [← hfv, ← hP]
  rw [← hP] at CB hshr
  have p4 : P ≤ 1048576 := by omega
  have f4 : fv ≤ 1048576 := by omega
  have i4 : i ≤ 1048576 := by
    have : i * 1 ≤ i * 2 ^ lv := Nat.mul_le_mul_left _ Nat.one_le_two_pow
    omega
  unfold digV at *
  simp only [show ∀ l : List UInt8, l.map bvI = digC l from fun _ => rfl] at *
  generalize digC (partR ds lv i) = PV at *
  clear hT hF hS e lp hlv hm hP hfv hfm hmk hdv hi
  go_enter Tryd.func61, Tryd.ntmps61
  go_wp2_with (refine wpList_allocBlk rfl 24 rfl zero32 zvD zero32c rfl ?_)
  intro w1 n1
  have N1 := Lib.hid n1
  clear n1
  go_wp2_with fail
  refine (CB.out _).mono ?_
  rintro e w' ⟨rfl, rfl⟩
  go_wp2_with fail
  refine (CC.out _ N1.out.fr).mono ?_
  rintro e w2 ⟨rfl, f2⟩
  have F2 := Lib.hid (N1.out.fr.trans f2)
  have B2 := Lib.hid (N1.out.blk.fr f2 (fun x => x))
  clear f2 N1
  go_wp2_with (refine wpList_storeBlk rfl 24 (.tmp 6) _ rfl w.heap.size PV.toArray rfl rfl _ _ B2.out DP.out.info DP.out.zero DP.out.one ?_)
  intro wz b5 f5
  have J4 := Lib.hid b5
  have JF : Hid (Fr Nothing w wz) := F2.out.then_ f5 (fun i hi e => by have e' : i = w.heap.size := e; omega)
  clear b5 f5
  go_wp2
  exact bodyPost_ret (results_cell_row (fn := Tryd.f61) (p := 6) (ty := 24) Tryd.results61 _ wz _ 24 PV.toArray (0, 0) _ rfl J4.out Tryd.underlying24 rfl DP.out.info) rfl ⟨rfl, JF.out⟩

theorem take_take_le {α : Type} (L : List α) {a b : Nat} (h : a ≤ b) : (L.take b).take a = L.take a := by rw [List.take_take, Nat.min_eq_left h]

set_option maxRecDepth 100000 in
set_option maxHeartbeats 2000000 in
theorem root_more (m lv : Nat) (ih : ∀ j, j < m → RootAt j) (hlv : Lib.bitLen m = lv + 1) (h2 : 2 ^ lv < m) (h3 : m < 2 * 2 ^ lv) (l40 : lv ≤ 40) : RootAt m := by
  intro w p A n c mb ds C f k hT hF hn hS h1 hfm hmk hdv
  have p1 : 1 ≤ 2 ^ lv := Nat.one_le_two_pow
  have hLN : 2 ^ lv = leftN m := leftN_of m lv (by omega) h2 (by omega)
  have hk : lv ≤ k := pow_lt_exp (by omega)
  have dv : 2 ^ lv ∣ f := dvd_pow_le hk hdv
  have hlen : ((ds.drop f).take m).length = m := by rw [List.length_take, List.length_drop, hT.len]; omega
  have e := rootL_more _ m hlen (by omega) (by omega)
  rw [← hLN, take_take_le _ (by omega), List.drop_take, List.drop_drop] at e
  rw [e]
  have CS := Lib.hid (fun w => leftSize_any m w (by omega) (by omega))
  rw [← hLN] at CS
  have CL : Hid (∀ w', Fr Nothing w w' → Calls Tryd.prog 61 #[.pointer (some ⟨p, 0, none⟩), .int .i64 f, .int .i64 (2 ^ lv : Nat)] w' (Same' w' (digV (rootL ((ds.drop f).take (2 ^ lv)))))) :=
    fun w' hf => ih (2 ^ lv) h2 w' p A n c mb ds C f lv (hT.fr0 hf) hF hn (hS.fr0 hf) p1 (by omega) (Nat.le_refl _) dv
  have CR : Hid (∀ w', Fr Nothing w w' → Calls Tryd.prog 61 #[.pointer (some ⟨p, 0, none⟩), .int .i64 (f + 2 ^ lv : Nat), .int .i64 (m - 2 ^ lv : Nat)] w' (Same' w' (digV (rootL ((ds.drop (f + 2 ^ lv)).take (m - 2 ^ lv)))))) :=
    fun w' hf => ih (m - 2 ^ lv) (by omega) w' p A n c mb ds C (f + 2 ^ lv) lv (hT.fr0 hf) hF hn (hS.fr0 hf) (by omega) (by omega) (by omega) ((Nat.dvd_add_right dv).2 (Nat.dvd_refl _))
  have l1 : (rootL ((ds.drop f).take (2 ^ lv))).length = 32 := rootL_length (2 ^ lv) _ (by rw [List.length_take, List.length_drop, hT.len]; omega) p1 (by omega) (fun d hd => hT.each d (List.mem_of_mem_drop (List.mem_of_mem_take hd)))
  have l2 : (rootL ((ds.drop (f + 2 ^ lv)).take (m - 2 ^ lv))).length = 32 := rootL_length (m - 2 ^ lv) _ (by rw [List.length_take, List.length_drop, hT.len]; omega) (by omega) (by omega) (fun d hd => hT.each d (List.mem_of_mem_drop (List.mem_of_mem_take hd)))
  have CN : Hid (∀ w', Fr Nothing w w' → Calls Tryd.prog 17 #[digV (rootL ((ds.drop f).take (2 ^ lv))), digV (rootL ((ds.drop (f + 2 ^ lv)).take (m - 2 ^ lv)))] w' (Same' w' (digV (nodeD (rootL ((ds.drop f).take (2 ^ lv))) (rootL ((ds.drop (f + 2 ^ lv)).take (m - 2 ^ lv))))))) := fun w' hf => Node_any _ _ l1 l2 w' (hS.fr0 hf)
  generalize rootL ((ds.drop f).take (2 ^ lv)) = r1 at *
  generalize rootL ((ds.drop (f + 2 ^ lv)).take (m - 2 ^ lv)) = r2 at *
  have DP : Hid (Dig (digC (nodeD r1 r2)).toArray) := Dig.of (nodeD_length _ _)
  have CB : Hid (∀ w, Calls Tryd.prog 80 #[.int .u64 (m : Int)] w fun e w' => e = .returned (.int .i64 (Lib.bitLen m : Nat)) ∧ w' = w) := fun w => Tryd.bits_Len (m : Int) w (by omega) (by omega)
  rw [hlv] at CB
  have hpw : IntKind.i64.wrap (1 * 2 ^ lv) = ((2 ^ lv : Nat) : Int) := by
    rw [Int.one_mul]
    have : (2 : Int) ^ lv = ((2 ^ lv : Nat) : Int) := by simp
    rw [this]
    exact IntWalk.i64_in _ (by omega)
  have hpw2 : IntKind.i64.wrap (2 ^ lv) = ((2 ^ lv : Nat) : Int) := by rw [← hpw, Int.one_mul]
  obtain ⟨P, hP⟩ : ∃ P, P = 2 ^ lv := ⟨_, rfl⟩
  rw [← hP] at hpw hpw2 CS CL CR h2 h3 p1
  have lv1 : ((lv + 1 : Nat) : Int) - 1 = (lv : Int) := by omega
  have te : ((m : Int) == (P : Int)) = false := by rw [beq_eq_false_iff_ne]; omega
  have te2 : ¬ m = P := by omega
  obtain ⟨f2, hf2⟩ : ∃ f2 : Nat, f2 = f + P := ⟨_, rfl⟩
  obtain ⟨m2, hm2⟩ : ∃ m2 : Nat, m2 = m - P := ⟨_, rfl⟩
  rw [← hf2, ← hm2] at CR
  have s1 : (f : Int) + (P : Int) = (f2 : Int) := by omega
  have s2 : (m : Int) - (P : Int) = (m2 : Int) := by omega
  have f4 : f ≤ 1048576 := by omega
  have f24 : f2 ≤ 1048576 := by omega
  have m4 : m ≤ 1048576 := by omega
  have m24 : m2 ≤ 1048576 := by omega
  have P4 : P ≤ 1048576 := by omega
  unfold digV at *
  simp only [show ∀ l : List UInt8, l.map bvI = digC l from fun _ => rfl] at *
  generalize digC (nodeD r1 r2) = PV at *
  generalize digC r1 = RV1 at *
  generalize digC r2 = RV2 at *
  clear hT hF hS e hlv hP hf2 hm2 hfm hmk hdv dv hk hLN hlen l1 l2 ih h1 h2 h3 p1
  go_enter Tryd.func61, Tryd.ntmps61
  go_wp2_with (refine wpList_allocBlk rfl 24 rfl zero32 zvD zero32c rfl ?_)
  intro w1 n1
  have N1 := Lib.hid n1
  clear n1
  go_wp2_with fail
  refine (CB.out _).mono ?_
  rintro e w' ⟨rfl, rfl⟩
  go_wp2_with fail
  refine (CS.out _).mono ?_
  rintro e w'' ⟨rfl, rfl⟩
  go_wp2_with fail
  refine (CL.out _ N1.out.fr).mono ?_
  rintro e w2 ⟨rfl, f2'⟩
  have F2 := Lib.hid (N1.out.fr.trans f2')
  have B2 := Lib.hid (N1.out.blk.fr f2' (fun x => x))
  clear f2' N1
  go_wp2_with fail
  refine (CR.out _ F2.out).mono ?_
  rintro e w3 ⟨rfl, f3'⟩
  have F3 := Lib.hid (F2.out.trans f3')
  have B3 := Lib.hid (B2.out.fr f3' (fun x => x))
  clear f3' F2 B2
  go_wp2_with fail
  refine (CN.out _ F3.out).mono ?_
  rintro e w4 ⟨rfl, f4'⟩
  have F4 := Lib.hid (F3.out.trans f4')
  have B4 := Lib.hid (B3.out.fr f4' (fun x => x))
  clear f4' F3 B3
  go_wp2_with (refine wpList_storeBlk rfl 24 (.tmp 6) _ rfl w.heap.size PV.toArray rfl rfl _ _ B4.out DP.out.info DP.out.zero DP.out.one ?_)
  intro wz b5 f5
  have J4 := Lib.hid b5
  have JF : Hid (Fr Nothing w wz) := F4.out.then_ f5 (fun i hi e => by have e' : i = w.heap.size := e; omega)
  clear b5 f5
  go_wp2
  exact bodyPost_ret (results_cell_row (fn := Tryd.f61) (p := 6) (ty := 24) Tryd.results61 _ wz _ 24 PV.toArray (0, 0) _ rfl J4.out Tryd.underlying24 rfl DP.out.info) rfl ⟨rfl, JF.out⟩

theorem root_at (m : Nat) (hm : m ≤ 1048576) : RootAt m := by
  induction m using Nat.strongRecOn with
  | _ m ih =>
    rcases Nat.eq_zero_or_pos m with rfl | h1
    · intro w p A n c mb ds C f k _ _ _ _ h
      omega
    · obtain ⟨lv, a, b, d, e⟩ := bits_of m h1 hm
      by_cases h : m = 2 ^ lv
      · exact root_pow m lv a h e
      · exact root_more m lv (fun j hj => ih j hj (by omega)) a (by omega) d e
end Go.Proofs.YtkaghbpdnmigmaaDoor

/- Tree.Append: its words (an append with room, one without; which parts are in the map). -/
namespace Go.Proofs.YtkaghbpdnmigmaaDoor
open Go.RowKit

/-! ### append of one digest -/
theorem run_appD_new (w : World) (A : Option Addr) (n c : Nat) (xs : List Value) (hown : w.ownsRow 0 24 32 (.slice A n c) n xs) (hc : ¬ n + 1 ≤ c) (hn : n ≤ 1048576) (ad : Addr) (cc : Nat) (news : List Value) (hl : news.length = 32) (hnews : ∀ j u, news[j]? = some u → w.cell? (ad.add j) = some u) (h1 : ∀ u ∈ news, u.oneCell' = true) (ty : TypeId) :
    ∃ g cap w', (Builtin.append_ #[29, 29] ty #[.slice A n c, .slice (some ad) 1 cc]).run Tryd.prog w = .ok (.slice (some ⟨g, 0, none⟩) (n + 1) cap) w' ∧ Fr Nothing w w' ∧ w.heap.size ≤ g ∧
      w'.ownsRow 0 24 32 (.slice (some ⟨g, 0, none⟩) (n + 1) cap) (n + 1) (xs ++ news) := by
  obtain ⟨i, hi, hz, hs, hb⟩ := info_parts infoDp
  have ht : Tryd.prog.underlying 29 = some (.slice 24) := Tryd.underlying29
  obtain ⟨v', w', hrun, hG⟩ := run_app (P := Tryd.prog) w 29 ty 24 i zero32 32 32 ht hi hz hs hb rfl (by omega) (.slice A n c) n xs hown (fun k => k = ad.block) (some ad) 1 cc news ⟨by omega, fun _ => ⟨ad, rfl, rfl, hnews⟩⟩ h1 (by omega) (by omega)
  have hx : xs.length = n * 32 := hown.1
  rcases hown.2 with ⟨hv, h0⟩ | ⟨g, cap, cur, hv, _, _, hnc, _⟩
  · cases hv
    have hr2 := run_append_nil (P := Tryd.prog) w 29 ty 24 i zero32 ht hi hz ad 1 cc news (by omega) hnews (by omega) (by omega) (by omega)
    rw [hrun] at hr2
    injection hr2 with e1 e2
    subst e1 e2
    exact ⟨w.heap.size, _, _, hrun, (Fr.refl _ _).drew.alloc _, Nat.le_refl _, hG.own⟩
  · injection hv with hA hn' hc'
    subst hA
    have holds : ∀ j u, xs[j]? = some u → w.cell? ((⟨g, 0, none⟩ : Addr).add j) = some u := hown.cells (g := g) rfl
    have hr2 := run_append_grow (P := Tryd.prog) w 29 ty 24 i zero32 ht hi hz ⟨g, 0, none⟩ n c xs (by rw [hs]; exact hx) holds ad 1 cc news (by omega) hnews (by omega) (by omega) (by rw [hb]; exact growslice_fits (by omega) (by omega))
    rw [hrun] at hr2
    injection hr2 with e1 e2
    subst e1 e2
    exact ⟨w.heap.size, _, _, hrun, (Fr.refl _ _).drew.alloc _, Nat.le_refl _, hG.own⟩

theorem wp_appD_new {o : Oper} {a : Act} {w : World} {K : Act → World → Prop} {Q : Exit → Act → World → Prop} (s x : Operand) (ho : o.op = .call { callee := .builtin .append, args := #[s, x], argTypes := #[29, 29] })
    (A : Option Addr) (n c : Nat) (xs : List Value) (hs : a.eval s = .slice A n c) (hown : w.ownsRow 0 24 32 (.slice A n c) n xs) (hc : ¬ n + 1 ≤ c) (hn : n ≤ 1048576) (ad : Addr) (cc : Nat) (news : List Value) (hx : a.eval x = .slice (some ad) 1 cc) (hl : news.length = 32) (hnews : ∀ j u, news[j]? = some u → w.cell? (ad.add j) = some u) (h1 : ∀ u ∈ news, u.oneCell' = true)
    (h : ∀ g cap w', Fr Nothing w w' → w.heap.size ≤ g → w'.ownsRow 0 24 32 (.slice (some ⟨g, 0, none⟩) (n + 1) cap) (n + 1) (xs ++ news) → K (a.put o.dst (.slice (some ⟨g, 0, none⟩) (n + 1) cap)) w') : o.wp Tryd.prog a w K Q := by
  obtain ⟨g, cap, w', hrun, hf, hg, hown'⟩ := run_appD_new w A n c xs hown hc hn ad cc news hl hnews h1 o.type
  unfold Oper.wp execOp
  simp only [ho, resolve, invoke, builtin, Sem.run_bind, Sem.run_pure, Result.andThen_ok, List.map_toArray, List.map_cons, List.map_nil, hs, hx, hrun]
  exact h g cap w' hf hg hown'

theorem wp_appD_room {o : Oper} {a : Act} {w : World} {K : Act → World → Prop} {Q : Exit → Act → World → Prop} (s x : Operand) (ho : o.op = .call { callee := .builtin .append, args := #[s, x], argTypes := #[29, 29] })
    (g n c : Nat) (xs : List Value) (hs : a.eval s = .slice (some ⟨g, 0, none⟩) n c) (hown : w.ownsRow 0 24 32 (.slice (some ⟨g, 0, none⟩) n c) n xs) (hc : n + 1 ≤ c) (ad : Addr) (cc : Nat) (news : List Value) (hx : a.eval x = .slice (some ad) 1 cc) (hl : news.length = 32) (hnews : ∀ j u, news[j]? = some u → w.cell? (ad.add j) = some u) (h1 : ∀ u ∈ news, u.oneCell' = true)
    (h : ∀ w', Fr (fun k => k = g) w w' → w'.ownsRow 0 24 32 (.slice (some ⟨g, 0, none⟩) (n + 1) c) (n + 1) (xs ++ news) → K (a.put o.dst (.slice (some ⟨g, 0, none⟩) (n + 1) c)) w') : o.wp Tryd.prog a w K Q := by
  obtain ⟨i, hi, hz, hsz, hb⟩ := info_parts infoDp
  obtain ⟨w', hrun, hown', hg⟩ := run_append_fits (P := Tryd.prog) w 0 29 o.type 24 i 32 Tryd.underlying29 hi hsz g n c xs hown ad 1 cc news (by omega) hnews h1 hc
  unfold Oper.wp execOp
  simp only [ho, resolve, invoke, builtin, Sem.run_bind, Sem.run_pure, Result.andThen_ok, List.map_toArray, List.map_cons, List.map_nil, hs, hx, hrun]
  exact h w' ((Fr.grown hg).mono (fun k _ hk => by simpa using hk)) hown'

/-! ### Which parts are in the map -/
def partC (n l i : Nat) : Prop := l ≠ 0 ∧ (i + 1) * 2 ^ l ≤ n
def chainC (n lv l i : Nat) : Prop := l ≠ 0 ∧ ((i + 1) * 2 ^ l ≤ n ∨ ((i + 1) * 2 ^ l = n + 1 ∧ l ≤ lv))
theorem partC_full (n : Nat) : Full (partC n) n := fun _ _ h hi => ⟨h, hi⟩
theorem PartM.congr {w : World} {b : Nat} {ds : List (List UInt8)} {C C' : Nat → Nat → Prop} (h : PartM w b ds C) (hC : ∀ l i, C l i ↔ C' l i) : PartM w b ds C' := by
  obtain ⟨es, clock, h1, h2, h3, h4⟩ := h
  refine ⟨es, clock, h1, fun e he => ?_, fun l i hc => h3 l i ((hC l i).2 hc), h4⟩
  obtain ⟨l, i, k1, k2, k3⟩ := h2 e he
  exact ⟨l, i, k1, k2, (hC l i).1 k3⟩
theorem chain_start (n l i : Nat) : partC n l i ↔ chainC n 0 l i := by
  unfold partC chainC
  constructor
  · rintro ⟨a, b⟩
    exact ⟨a, .inl b⟩
  · rintro ⟨a, b | ⟨_, b⟩⟩
    · exact ⟨a, b⟩
    · omega
theorem chain_step (n lv q l i : Nat) (h : (q + 1) * 2 ^ (lv + 1) = n + 1) : chainC n (lv + 1) l i ↔ chainC n lv l i ∨ (l = lv + 1 ∧ i = q) := by
  unfold chainC
  constructor
  · rintro ⟨a, b | ⟨b, c⟩⟩
    · exact .inl ⟨a, .inl b⟩
    · by_cases hl : l ≤ lv
      · exact .inl ⟨a, .inr ⟨b, hl⟩⟩
      · obtain rfl : l = lv + 1 := by omega
        refine .inr ⟨rfl, ?_⟩
        have : (i + 1) = (q + 1) := Nat.eq_of_mul_eq_mul_right (Nat.two_pow_pos (lv + 1)) (by rw [b, h])
        omega
  · rintro (⟨a, b | ⟨b, c⟩⟩ | ⟨rfl, rfl⟩)
    · exact ⟨a, .inl b⟩
    · exact ⟨a, .inr ⟨b, by omega⟩⟩
    · exact ⟨by omega, .inr ⟨h, Nat.le_refl _⟩⟩
theorem chain_new (n lv q : Nat) (h : (q + 1) * 2 ^ (lv + 1) = n + 1) : ¬ chainC n lv (lv + 1) q := by
  rintro ⟨_, b | ⟨_, c⟩⟩
  · omega
  · omega
theorem chain_end (n lv idx : Nat) (h : (idx + 1) * 2 ^ lv = n + 1) (he : idx % 2 = 0) (l i : Nat) : chainC n lv l i ↔ partC (n + 1) l i := by
  unfold chainC partC
  constructor
  · rintro ⟨a, b | ⟨b, _⟩⟩
    · exact ⟨a, by omega⟩
    · exact ⟨a, by omega⟩
  · rintro ⟨a, b⟩
    refine ⟨a, ?_⟩
    by_cases hb : (i + 1) * 2 ^ l ≤ n
    · exact .inl hb
    · refine .inr ⟨by omega, ?_⟩
      rcases Nat.lt_or_ge lv l with hl | hl
      · exfalso
        obtain ⟨d, rfl⟩ : ∃ d, l = lv + 1 + d := ⟨l - lv - 1, by omega⟩
        have e : (i + 1) * 2 ^ (lv + 1 + d) = (2 * ((i + 1) * 2 ^ d)) * 2 ^ lv := by
          rw [Nat.pow_add, Nat.pow_succ]
          simp only [Nat.mul_assoc, Nat.mul_comm, Nat.mul_left_comm]
        have : idx + 1 = 2 * ((i + 1) * 2 ^ d) := Nat.eq_of_mul_eq_mul_right (Nat.two_pow_pos lv) (by rw [h, ← e]; omega)
        omega
      · exact hl

/-! ### The store into the map -/
theorem wpList_updateP {ops : Array Oper} {rest : List Oper} {o : Oper} {a : Act} {w : World} {Q : Exit → Act → World → Prop} (hgd : o.guard = none) (m k x : Operand) (ho : o.op = .mapUpdate 100 m k x)
    {b : Nat} {ds : List (List UInt8)} {C : Nat → Nat → Prop} (h : PartM w b ds C) (l i : Nat) {v : Value} (hm : a.eval m = .map (some b)) (hk : a.eval k = keyV l i) (hx : a.eval x = v) (hC : ¬ C l i) (hv : v = digV (partR ds l i)) (C' : Nat → Nat → Prop) (hC' : ∀ l' i', C' l' i' ↔ C l' i' ∨ (l' = l ∧ i' = i))
    (hK : ∀ w', PartM w' b ds C' → Fr (fun k => k = b) w w' → wpList Tryd.prog ops Q rest (a.put o.dst undef) w') : wpList Tryd.prog ops Q (o :: rest) a w := by
  obtain ⟨w', hrun, hP, hf⟩ := run_update_part h l i hC v hv C' hC'
  refine wpList_plain hgd fun K hK2 => ?_
  unfold Oper.wp execOp
  simp only [ho, hm, hk, hx, Sem.run_bind, hrun, Sem.run_pure, Result.andThen_ok]
  exact hK2 _ _ (hK w' hP hf)
end Go.Proofs.YtkaghbpdnmigmaaDoor
