/- logtree.within; Extends of both sides (written by genU.py). -/
import Derived.Test.YtkaghbpdnmigmaaDoorLtT
import Derived.Test.YtkaghbpdnmigmaaDoorLtR
namespace Go.Proofs.YtkaghbpdnmigmaaDoor
open Go.RowKit

def zeroL : List UInt8 := List.replicate 32 0
theorem zeroL_length : zeroL.length = 32 := rfl
theorem zeroL_cells : (digC zeroL).toArray = zero32c := by kernel_rfl
theorem built23 : Tryd.prog.built 23 [] = some (digC zeroL).toArray := by kernel_rfl

theorem results_cells_slot {P : Program} {fn : Func} {p q r : Tmp} {ty : TypeId} (h : fn.results = #[.cell p ty, .cell q ty, .tmp r]) (tmps : Array Value) (w : World) (g g' : Nat) (t : TypeId) (cs cs' : Array Value) (fr : Nat × Nat) {d : TypeDesc}
    (hp : tmps.getD p undef = .pointer (some ⟨g, 0, none⟩)) (hq : tmps.getD q undef = .pointer (some ⟨g', 0, none⟩)) (hg : w.heap[g]? = some (.cells cs t fr)) (hg' : w.heap[g']? = some (.cells cs' t fr))
    (hu : P.underlying ty = some d) (hd : (match d with | .struct _ | .array _ _ => true | _ => false) = true) (hi : (P.info? ty).map (·.size) = some cs.size) (hi' : (P.info? ty).map (·.size) = some cs'.size) (v : Value) (hv : tmps.getD r undef = v) :
    (results fn tmps).run P w = .ok (.tuple #[.agg cs, .agg cs', v]) w := by
  have hp' : tmps[p]?.getD undef = .pointer (some ⟨g, 0, none⟩) := by simpa using hp
  have hq' : tmps[q]?.getD undef = .pointer (some ⟨g', 0, none⟩) := by simpa using hq
  have hv' : tmps[r]?.getD undef = v := by simpa using hv
  simp [results, h, hp', hq', hv', asAddr, run_loadVar_row w g t ty cs fr d hg hu hd hi, run_loadVar_row w g' t ty cs' fr d hg' hu hd hi']

theorem wpList_build0 {P : Program} {ops : Array Oper} {rest : List Oper} {o : Oper} {a : Act} {w : World} {Q : Exit → Act → World → Prop} (hg : o.guard = none) (t : TypeId) (ho : o.op = .build t #[]) (cells : Array Value)
    (hf : P.built t [] = some cells) (h : wpList P ops Q rest (a.put o.dst (.agg cells)) w) : wpList P ops Q (o :: rest) a w :=
  wpList_buildTo hg t #[] ho cells (by simpa using hf) h

set_option maxRecDepth 100000 in
theorem within_any (n lo hi : Int) (w : World) : Calls Tryd.prog 52 #[.int .i64 n, .int .i64 lo, .int .i64 hi] w (SameW w (.bool (decide (lo ≤ n ∧ n ≤ hi)))) := by
  by_cases h1 : lo ≤ n
  · have t1 : decide (lo ≤ n) = true := decide_eq_true h1
    by_cases h2 : n ≤ hi
    · have t2 : decide (n ≤ hi) = true := decide_eq_true h2
      rw [decide_eq_true ⟨h1, h2⟩]
      go_enter Tryd.func52, Tryd.ntmps52
      go_wp2
      go_ret
      exact ⟨rfl, rfl⟩
    · have t2 : decide (n ≤ hi) = false := decide_eq_false h2
      rw [decide_eq_false (fun h => h2 h.2)]
      go_enter Tryd.func52, Tryd.ntmps52
      go_wp2
      go_ret
      exact ⟨rfl, rfl⟩
  · have t1 : decide (lo ≤ n) = false := decide_eq_false h1
    rw [decide_eq_false (fun h => h1 h.1)]
    go_enter Tryd.func52, Tryd.ntmps52
    go_wp2
    go_ret
    exact ⟨rfl, rfl⟩

set_option maxRecDepth 100000 in
set_option maxHeartbeats 1000000 in
theorem Extends_range (old : List UInt8) (ho : old.length = 32) (m n : Int) (v : Value) (w : World) (hr : ¬ (0 ≤ n ∧ n ≤ 1048576 ∧ 0 ≤ m ∧ m ≤ n)) :
    Calls Tryd.prog 24 #[digV old, .int .i64 m, .int .i64 n, v] w (Same' w (.tuple #[digV zeroL, digV zeroL, .int .i64 2])) := by
  have DO : Hid (Dig (digC old).toArray) := Dig.of ho
  have HOV : Hid ((Tryd.prog.info? 24).map (·.size) = some (digC old).length) := by rw [digC, List.length_map, ho]; exact infoD
  have DZ : Hid (Dig (digC zeroL).toArray) := Dig.of zeroL_length
  have HZV : Hid ((Tryd.prog.info? 24).map (·.size) = some (digC zeroL).length) := by rw [digC, List.length_map, zeroL_length]; exact infoD
  have C1 : Hid (∀ w', Calls Tryd.prog 52 #[.int .i64 n, .int .i64 0, .int .i64 1048576] w' (SameW w' (.bool (decide (0 ≤ n ∧ n ≤ 1048576))))) := fun w' => within_any n 0 1048576 w'
  have C2 : Hid (∀ w', Calls Tryd.prog 52 #[.int .i64 m, .int .i64 0, .int .i64 n] w' (SameW w' (.bool (decide (0 ≤ m ∧ m ≤ n))))) := fun w' => within_any m 0 n w'
  have hb : decide (0 ≤ n ∧ n ≤ 1048576) = false ∨ (decide (0 ≤ n ∧ n ≤ 1048576) = true ∧ decide (0 ≤ m ∧ m ≤ n) = false) := by
    by_cases h1 : 0 ≤ n ∧ n ≤ 1048576
    · exact .inr ⟨decide_eq_true h1, decide_eq_false (fun h => hr ⟨h1.1, h1.2, h.1, h.2⟩)⟩
    · exact .inl (decide_eq_false h1)
  have ZC : Hid ((digC zeroL).toArray = zero32c) := zeroL_cells
  clear ho hr
  unfold digV at *
  simp only [show ∀ l : List UInt8, l.map bvI = digC l from fun _ => rfl] at *
  generalize digC old = OV at *
  generalize digC zeroL = ZV at *
  generalize decide (0 ≤ n ∧ n ≤ 1048576) = p1 at *
  generalize decide (0 ≤ m ∧ m ≤ n) = p2 at *
  rcases hb with rfl | ⟨rfl, rfl⟩
  · go_enter Tryd.func24, Tryd.ntmps24
    go_wp2_with (refine wpList_boxBlk rfl 24 (.tmp 0) rfl _ rfl ?_)
    intro w1 n1
    have N1 := Lib.hid n1
    clear n1
    go_wp2_with (refine wpList_allocBlk rfl 24 rfl zero32 zvD zero32c rfl ?_)
    intro w2 n2
    have N2 := Lib.hid n2
    clear n2
    go_wp2_with (refine wpList_allocBlk rfl 24 rfl zero32 zvD zero32c rfl ?_)
    intro w3 n3
    have E3 := Lib.hid (Ext3.of N1.out N2.out n3)
    clear n3 N1 N2
    generalize w.heap.size = g4 at *
    generalize w1.heap.size = g8 at *
    generalize w2.heap.size = g9 at *
    go_wp2_with fail
    refine (C1.out _).mono ?_
    rintro e w' ⟨rfl, rfl⟩
    rw [← ZC.out] at E3
    go_upto_region 2 with fail
    refine wp_region_st 3 (fun k => k = g8) [Is (.agg ZV.toArray), Is (.agg ZV.toArray), fun _ _ => True] [(2, fun w' => Blk w' g8 24 ZV.toArray)] (fun w' => Blk w' g8 24 ZV.toArray) (fun i j => i == 0 && j == 2) (by kernel_rfl) (by kernel_rfl) (by kernel_rfl) (by kernel_rfl) ⟨Is.stable _, Is.stable _, fun _ _ _ _ _ h => h, trivial⟩ ⟨fun _ _ _ hf h => h.fr hf (fun x => x), trivial⟩ (fun _ _ _ hf h => h.fr hf (fun x => x)) E3.out.b10 ?_ ?_
    · refine ⟨fun u w' d hf hR k1 k0 kM => ?_, fun u w' d hf hR k1 k0 kM => ?_, fun u w' d hf hR k1 k0 kM => ?_, trivial⟩
      all_goals simp only [List.take_succ_cons, List.take_zero, List.map_cons, List.map_nil, puts, Act.put, List.setIfInBounds_toArray, List.set_cons_zero, List.set_cons_succ, Nat.reduceAdd, Nat.zero_add]
      · clear hR
        refine .inl ⟨by kernel_rfl, ?_⟩
        have hN : Blk w' g8 24 ZV.toArray := by rw [stage, if_neg (by rw [k0 2 (by kernel_rfl)]; exact Bool.false_ne_true)] at kM; exact kM
        clear k1 k0 kM
        exact wp_load_mid _ _ rfl g8 0 rfl ZV _ (range_blk (hN)) Tryd.underlying24 rfl HZV.out ⟨_, rfl, Fr.refl _ _, rfl, trivial⟩
      · clear hR k1 k0 kM
        refine .inl ⟨by kernel_rfl, ?_⟩
        exact wp_load_mid _ _ rfl g9 0 rfl ZV _ (range_blk (E3.out.b11.fr hf (fun e => by have e' : g9 = g8 := e; have := E3.out.l1; have := E3.out.l2; omega))) Tryd.underlying24 rfl HZV.out ⟨_, rfl, Fr.refl _ _, rfl, trivial⟩
      · have h0 : u 0 = _ := hR 0 (by kernel_rfl)
        clear hR
        simp only [h0]
        refine .inl ⟨by kernel_rfl, ?_⟩
        have hN : Blk w' g8 24 ZV.toArray := by rw [stage, if_neg (by rw [k0 2 (by kernel_rfl)]; exact Bool.false_ne_true)] at kM; exact kM
        clear k1 k0 kM
        refine wp_storeBlk 24 (.tmp 8) (.tmp 20) rfl g8 ZV.toArray rfl rfl _ _ hN DZ.out.info rfl DZ.out.one ?_
        intro w4 b4 f4
        exact ⟨_, rfl, f4, trivial, b4⟩
    · intro u w' hf hR kM
      have h1 : u 1 = _ := hR 1 (by omega)
      clear hR
      have k8 : Blk w' g8 24 ZV.toArray := kM
      clear kM
      simp only [List.take_succ_cons, List.take_zero, List.map_cons, List.map_nil, puts, Act.put, List.setIfInBounds_toArray, List.set_cons_zero, List.set_cons_succ, List.drop_succ_cons, List.drop_zero, Nat.zero_add, h1]
      have B9 := Lib.hid (E3.out.b11.fr hf (fun e => by have e' : g9 = g8 := e; have := E3.out.l1; have := E3.out.l2; omega))
      have B8 := Lib.hid k8
      have FF := Lib.hid hf
      clear k8 hf
      go_wp2_with (refine wpList_storeBlk rfl 24 (.tmp 9) _ rfl g9 ZV.toArray rfl rfl _ _ B9.out DZ.out.info rfl DZ.out.one ?_)
      intro wz b5 f5
      have J9 := Lib.hid b5
      have J8 := Lib.hid (B8.out.fr f5 (fun e => by have e' : g8 = g9 := e; have := E3.out.l1; have := E3.out.l2; omega))
      have JF : Hid (Fr Nothing w wz) := (E3.out.fr.then_ FF.out (fun i hi e => by have e' : i = g8 := e; have := E3.out.lo; have := E3.out.l1; omega)).then_ f5 (fun i hi e => by have e' : i = g9 := e; have := E3.out.lo; have := E3.out.l1; have := E3.out.l2; omega)
      clear b5 f5
      go_wp2
      exact bodyPost_ret (results_cells_slot (fn := Tryd.f24) (p := 8) (q := 9) (r := 10) (ty := 24) Tryd.results24 _ wz _ _ 24 ZV.toArray ZV.toArray (0, 0) rfl rfl J8.out J9.out Tryd.underlying24 rfl DZ.out.info DZ.out.info _ rfl) rfl ⟨rfl, JF.out⟩
  · go_enter Tryd.func24, Tryd.ntmps24
    go_wp2_with (refine wpList_boxBlk rfl 24 (.tmp 0) rfl _ rfl ?_)
    intro w1 n1
    have N1 := Lib.hid n1
    clear n1
    go_wp2_with (refine wpList_allocBlk rfl 24 rfl zero32 zvD zero32c rfl ?_)
    intro w2 n2
    have N2 := Lib.hid n2
    clear n2
    go_wp2_with (refine wpList_allocBlk rfl 24 rfl zero32 zvD zero32c rfl ?_)
    intro w3 n3
    have E3 := Lib.hid (Ext3.of N1.out N2.out n3)
    clear n3 N1 N2
    generalize w.heap.size = g4 at *
    generalize w1.heap.size = g8 at *
    generalize w2.heap.size = g9 at *
    go_wp2_with fail
    refine (C1.out _).mono ?_
    rintro e w' ⟨rfl, rfl⟩
    go_wp2_with fail
    refine (C2.out _).mono ?_
    rintro e w' ⟨rfl, rfl⟩
    rw [← ZC.out] at E3
    go_upto_region 2 with fail
    refine wp_region_st 3 (fun k => k = g8) [Is (.agg ZV.toArray), Is (.agg ZV.toArray), fun _ _ => True] [(2, fun w' => Blk w' g8 24 ZV.toArray)] (fun w' => Blk w' g8 24 ZV.toArray) (fun i j => i == 0 && j == 2) (by kernel_rfl) (by kernel_rfl) (by kernel_rfl) (by kernel_rfl) ⟨Is.stable _, Is.stable _, fun _ _ _ _ _ h => h, trivial⟩ ⟨fun _ _ _ hf h => h.fr hf (fun x => x), trivial⟩ (fun _ _ _ hf h => h.fr hf (fun x => x)) E3.out.b10 ?_ ?_
    · refine ⟨fun u w' d hf hR k1 k0 kM => ?_, fun u w' d hf hR k1 k0 kM => ?_, fun u w' d hf hR k1 k0 kM => ?_, trivial⟩
      all_goals simp only [List.take_succ_cons, List.take_zero, List.map_cons, List.map_nil, puts, Act.put, List.setIfInBounds_toArray, List.set_cons_zero, List.set_cons_succ, Nat.reduceAdd, Nat.zero_add]
      · clear hR
        refine .inl ⟨by kernel_rfl, ?_⟩
        have hN : Blk w' g8 24 ZV.toArray := by rw [stage, if_neg (by rw [k0 2 (by kernel_rfl)]; exact Bool.false_ne_true)] at kM; exact kM
        clear k1 k0 kM
        exact wp_load_mid _ _ rfl g8 0 rfl ZV _ (range_blk (hN)) Tryd.underlying24 rfl HZV.out ⟨_, rfl, Fr.refl _ _, rfl, trivial⟩
      · clear hR k1 k0 kM
        refine .inl ⟨by kernel_rfl, ?_⟩
        exact wp_load_mid _ _ rfl g9 0 rfl ZV _ (range_blk (E3.out.b11.fr hf (fun e => by have e' : g9 = g8 := e; have := E3.out.l1; have := E3.out.l2; omega))) Tryd.underlying24 rfl HZV.out ⟨_, rfl, Fr.refl _ _, rfl, trivial⟩
      · have h0 : u 0 = _ := hR 0 (by kernel_rfl)
        clear hR
        simp only [h0]
        refine .inl ⟨by kernel_rfl, ?_⟩
        have hN : Blk w' g8 24 ZV.toArray := by rw [stage, if_neg (by rw [k0 2 (by kernel_rfl)]; exact Bool.false_ne_true)] at kM; exact kM
        clear k1 k0 kM
        refine wp_storeBlk 24 (.tmp 8) (.tmp 20) rfl g8 ZV.toArray rfl rfl _ _ hN DZ.out.info rfl DZ.out.one ?_
        intro w4 b4 f4
        exact ⟨_, rfl, f4, trivial, b4⟩
    · intro u w' hf hR kM
      have h1 : u 1 = _ := hR 1 (by omega)
      clear hR
      have k8 : Blk w' g8 24 ZV.toArray := kM
      clear kM
      simp only [List.take_succ_cons, List.take_zero, List.map_cons, List.map_nil, puts, Act.put, List.setIfInBounds_toArray, List.set_cons_zero, List.set_cons_succ, List.drop_succ_cons, List.drop_zero, Nat.zero_add, h1]
      have B9 := Lib.hid (E3.out.b11.fr hf (fun e => by have e' : g9 = g8 := e; have := E3.out.l1; have := E3.out.l2; omega))
      have B8 := Lib.hid k8
      have FF := Lib.hid hf
      clear k8 hf
      go_wp2_with (refine wpList_storeBlk rfl 24 (.tmp 9) _ rfl g9 ZV.toArray rfl rfl _ _ B9.out DZ.out.info rfl DZ.out.one ?_)
      intro wz b5 f5
      have J9 := Lib.hid b5
      have J8 := Lib.hid (B8.out.fr f5 (fun e => by have e' : g8 = g9 := e; have := E3.out.l1; have := E3.out.l2; omega))
      have JF : Hid (Fr Nothing w wz) := (E3.out.fr.then_ FF.out (fun i hi e => by have e' : i = g8 := e; have := E3.out.lo; have := E3.out.l1; omega)).then_ f5 (fun i hi e => by have e' : i = g9 := e; have := E3.out.lo; have := E3.out.l1; have := E3.out.l2; omega)
      clear b5 f5
      go_wp2
      exact bodyPost_ret (results_cells_slot (fn := Tryd.f24) (p := 8) (q := 9) (r := 10) (ty := 24) Tryd.results24 _ wz _ _ 24 ZV.toArray ZV.toArray (0, 0) rfl rfl J8.out J9.out Tryd.underlying24 rfl DZ.out.info DZ.out.info _ rfl) rfl ⟨rfl, JF.out⟩

set_option maxRecDepth 100000 in
set_option maxHeartbeats 1000000 in
theorem Extends_zero (old : List UInt8) (ho : old.length = 32) (n : Nat) (hn : n ≤ 1048576) (p : Nat) (A : Option Addr) (c : Nat) (w : World) :
    Calls Tryd.prog 24 #[digV old, .int .i64 0, .int .i64 n, .slice A p c] w (Same' w (if p = 0 then .tuple #[digV old, digV zeroL, .int .i64 0] else .tuple #[digV zeroL, digV zeroL, .int .i64 35])) := by
  have DO : Hid (Dig (digC old).toArray) := Dig.of ho
  have HOV : Hid ((Tryd.prog.info? 24).map (·.size) = some (digC old).length) := by rw [digC, List.length_map, ho]; exact infoD
  have DZ : Hid (Dig (digC zeroL).toArray) := Dig.of zeroL_length
  have HZV : Hid ((Tryd.prog.info? 24).map (·.size) = some (digC zeroL).length) := by rw [digC, List.length_map, zeroL_length]; exact infoD
  have C1 : Hid (∀ w', Calls Tryd.prog 52 #[.int .i64 n, .int .i64 0, .int .i64 1048576] w' (SameW w' (.bool true))) := by
    intro w'
    have h := within_any (n : Int) 0 1048576 w'
    rw [decide_eq_true (by omega)] at h
    exact h
  have C2 : Hid (∀ w', Calls Tryd.prog 52 #[.int .i64 0, .int .i64 0, .int .i64 n] w' (SameW w' (.bool true))) := by
    intro w'
    have h := within_any 0 0 n w'
    rw [decide_eq_true (by omega)] at h
    exact h
  have CE : Hid (∀ w', Calls Tryd.prog 53 #[.int .i64 0, .int .i64 n, .bool true] w' (SameW w' (.int .i64 0))) := fun w' => extensionLength_zero n true w'
  have ZC : Hid ((digC zeroL).toArray = zero32c) := zeroL_cells
  clear ho
  unfold digV at *
  simp only [show ∀ l : List UInt8, l.map bvI = digC l from fun _ => rfl] at *
  generalize digC old = OV at *
  generalize digC zeroL = ZV at *
  by_cases h0 : p = 0
  · subst h0
    rw [if_pos rfl]
    go_enter Tryd.func24, Tryd.ntmps24
    go_wp2_with (refine wpList_boxBlk rfl 24 (.tmp 0) rfl _ rfl ?_)
    intro w1 n1
    have N1 := Lib.hid n1
    clear n1
    go_wp2_with (refine wpList_allocBlk rfl 24 rfl zero32 zvD zero32c rfl ?_)
    intro w2 n2
    have N2 := Lib.hid n2
    clear n2
    go_wp2_with (refine wpList_allocBlk rfl 24 rfl zero32 zvD zero32c rfl ?_)
    intro w3 n3
    have E3 := Lib.hid (Ext3.of N1.out N2.out n3)
    clear n3 N1 N2
    generalize w.heap.size = g4 at *
    generalize w1.heap.size = g8 at *
    generalize w2.heap.size = g9 at *
    go_wp2_with fail
    refine (C1.out _).mono ?_
    rintro e w' ⟨rfl, rfl⟩
    go_wp2_with fail
    refine (C2.out _).mono ?_
    rintro e w' ⟨rfl, rfl⟩
    go_wp2_with fail
    refine (CE.out _).mono ?_
    rintro e w' ⟨rfl, rfl⟩
    rw [← ZC.out] at E3
    go_upto_region 6 with fail
    refine wp_region_st 3 (fun k => k = g8) [Is (.agg OV.toArray), Is (.agg ZV.toArray), fun _ _ => True] [(2, fun w' => Blk w' g8 24 OV.toArray)] (fun w' => Blk w' g8 24 ZV.toArray) (fun _ _ => false) (by kernel_rfl) (by kernel_rfl) (by kernel_rfl) (by kernel_rfl) ⟨Is.stable _, Is.stable _, fun _ _ _ _ _ h => h, trivial⟩ ⟨fun _ _ _ hf h => h.fr hf (fun x => x), trivial⟩ (fun _ _ _ hf h => h.fr hf (fun x => x)) E3.out.b10 ?_ ?_
    · refine ⟨fun u w' d hf hR k1 k0 kM => ?_, fun u w' d hf hR k1 k0 kM => ?_, fun u w' d hf hR k1 k0 kM => ?_, trivial⟩
      all_goals simp only [List.take_succ_cons, List.take_zero, List.map_cons, List.map_nil, puts, Act.put, List.setIfInBounds_toArray, List.set_cons_zero, List.set_cons_succ, Nat.reduceAdd, Nat.zero_add]
      · clear hR k1 k0 kM
        refine .inl ⟨by kernel_rfl, ?_⟩
        exact wp_load_mid _ _ rfl g4 0 rfl OV _ (range_blk (E3.out.b5.fr hf (fun e => by have e' : g4 = g8 := e; have := E3.out.l1; have := E3.out.l2; omega))) Tryd.underlying24 rfl HOV.out ⟨_, rfl, Fr.refl _ _, rfl, trivial⟩
      · clear hR k1 k0 kM
        refine .inl ⟨by kernel_rfl, ?_⟩
        exact wp_load_mid _ _ rfl g9 0 rfl ZV _ (range_blk (E3.out.b11.fr hf (fun e => by have e' : g9 = g8 := e; have := E3.out.l1; have := E3.out.l2; omega))) Tryd.underlying24 rfl HZV.out ⟨_, rfl, Fr.refl _ _, rfl, trivial⟩
      · have h0 : u 0 = _ := hR 0 (by kernel_rfl)
        clear hR
        simp only [h0]
        refine .inl ⟨by kernel_rfl, ?_⟩
        have hN : Blk w' g8 24 ZV.toArray := by rw [stage, if_neg (by rw [k0 2 (by kernel_rfl)]; exact Bool.false_ne_true)] at kM; exact kM
        clear k1 k0 kM
        refine wp_storeBlk 24 (.tmp 8) (.tmp 32) rfl g8 OV.toArray rfl rfl _ _ hN DO.out.info (DZ.out.size.trans DO.out.size.symm) DO.out.one ?_
        intro w4 b4 f4
        exact ⟨_, rfl, f4, trivial, b4⟩
    · intro u w' hf hR kM
      have h1 : u 1 = _ := hR 1 (by omega)
      clear hR
      have k8 : Blk w' g8 24 OV.toArray := kM
      clear kM
      simp only [List.take_succ_cons, List.take_zero, List.map_cons, List.map_nil, puts, Act.put, List.setIfInBounds_toArray, List.set_cons_zero, List.set_cons_succ, List.drop_succ_cons, List.drop_zero, Nat.zero_add, h1]
      have B9 := Lib.hid (E3.out.b11.fr hf (fun e => by have e' : g9 = g8 := e; have := E3.out.l1; have := E3.out.l2; omega))
      have B8 := Lib.hid k8
      have FF := Lib.hid hf
      clear k8 hf
      go_wp2_with (refine wpList_storeBlk rfl 24 (.tmp 9) _ rfl g9 ZV.toArray rfl rfl _ _ B9.out DZ.out.info rfl DZ.out.one ?_)
      intro wz b5 f5
      have J9 := Lib.hid b5
      have J8 := Lib.hid (B8.out.fr f5 (fun e => by have e' : g8 = g9 := e; have := E3.out.l1; have := E3.out.l2; omega))
      have JF : Hid (Fr Nothing w wz) := (E3.out.fr.then_ FF.out (fun i hi e => by have e' : i = g8 := e; have := E3.out.lo; have := E3.out.l1; omega)).then_ f5 (fun i hi e => by have e' : i = g9 := e; have := E3.out.lo; have := E3.out.l1; have := E3.out.l2; omega)
      clear b5 f5
      go_wp2
      exact bodyPost_ret (results_cells_slot (fn := Tryd.f24) (p := 8) (q := 9) (r := 10) (ty := 24) Tryd.results24 _ wz _ _ 24 OV.toArray ZV.toArray (0, 0) rfl rfl J8.out J9.out Tryd.underlying24 rfl DO.out.info DZ.out.info _ rfl) rfl ⟨rfl, JF.out⟩
  · rw [if_neg h0]
    have t5 : ((p : Int) == 0) = false := by rw [beq_eq_false_iff_ne]; omega
    have t6 : ¬ p = 0 := h0
    go_enter Tryd.func24, Tryd.ntmps24
    go_wp2_with (refine wpList_boxBlk rfl 24 (.tmp 0) rfl _ rfl ?_)
    intro w1 n1
    have N1 := Lib.hid n1
    clear n1
    go_wp2_with (refine wpList_allocBlk rfl 24 rfl zero32 zvD zero32c rfl ?_)
    intro w2 n2
    have N2 := Lib.hid n2
    clear n2
    go_wp2_with (refine wpList_allocBlk rfl 24 rfl zero32 zvD zero32c rfl ?_)
    intro w3 n3
    have E3 := Lib.hid (Ext3.of N1.out N2.out n3)
    clear n3 N1 N2
    generalize w.heap.size = g4 at *
    generalize w1.heap.size = g8 at *
    generalize w2.heap.size = g9 at *
    go_wp2_with fail
    refine (C1.out _).mono ?_
    rintro e w' ⟨rfl, rfl⟩
    go_wp2_with fail
    refine (C2.out _).mono ?_
    rintro e w' ⟨rfl, rfl⟩
    go_wp2_with fail
    refine (CE.out _).mono ?_
    rintro e w' ⟨rfl, rfl⟩
    rw [← ZC.out] at E3
    go_upto_region 4 with fail
    refine wp_region_st 3 (fun k => k = g8) [Is (.agg ZV.toArray), Is (.agg ZV.toArray), fun _ _ => True] [(2, fun w' => Blk w' g8 24 ZV.toArray)] (fun w' => Blk w' g8 24 ZV.toArray) (fun i j => i == 0 && j == 2) (by kernel_rfl) (by kernel_rfl) (by kernel_rfl) (by kernel_rfl) ⟨Is.stable _, Is.stable _, fun _ _ _ _ _ h => h, trivial⟩ ⟨fun _ _ _ hf h => h.fr hf (fun x => x), trivial⟩ (fun _ _ _ hf h => h.fr hf (fun x => x)) E3.out.b10 ?_ ?_
    · refine ⟨fun u w' d hf hR k1 k0 kM => ?_, fun u w' d hf hR k1 k0 kM => ?_, fun u w' d hf hR k1 k0 kM => ?_, trivial⟩
      all_goals simp only [List.take_succ_cons, List.take_zero, List.map_cons, List.map_nil, puts, Act.put, List.setIfInBounds_toArray, List.set_cons_zero, List.set_cons_succ, Nat.reduceAdd, Nat.zero_add]
      · clear hR
        refine .inl ⟨by kernel_rfl, ?_⟩
        have hN : Blk w' g8 24 ZV.toArray := by rw [stage, if_neg (by rw [k0 2 (by kernel_rfl)]; exact Bool.false_ne_true)] at kM; exact kM
        clear k1 k0 kM
        exact wp_load_mid _ _ rfl g8 0 rfl ZV _ (range_blk (hN)) Tryd.underlying24 rfl HZV.out ⟨_, rfl, Fr.refl _ _, rfl, trivial⟩
      · clear hR k1 k0 kM
        refine .inl ⟨by kernel_rfl, ?_⟩
        exact wp_load_mid _ _ rfl g9 0 rfl ZV _ (range_blk (E3.out.b11.fr hf (fun e => by have e' : g9 = g8 := e; have := E3.out.l1; have := E3.out.l2; omega))) Tryd.underlying24 rfl HZV.out ⟨_, rfl, Fr.refl _ _, rfl, trivial⟩
      · have h0 : u 0 = _ := hR 0 (by kernel_rfl)
        clear hR
        simp only [h0]
        refine .inl ⟨by kernel_rfl, ?_⟩
        have hN : Blk w' g8 24 ZV.toArray := by rw [stage, if_neg (by rw [k0 2 (by kernel_rfl)]; exact Bool.false_ne_true)] at kM; exact kM
        clear k1 k0 kM
        refine wp_storeBlk 24 (.tmp 8) (.tmp 28) rfl g8 ZV.toArray rfl rfl _ _ hN DZ.out.info rfl DZ.out.one ?_
        intro w4 b4 f4
        exact ⟨_, rfl, f4, trivial, b4⟩
    · intro u w' hf hR kM
      have h1 : u 1 = _ := hR 1 (by omega)
      clear hR
      have k8 : Blk w' g8 24 ZV.toArray := kM
      clear kM
      simp only [List.take_succ_cons, List.take_zero, List.map_cons, List.map_nil, puts, Act.put, List.setIfInBounds_toArray, List.set_cons_zero, List.set_cons_succ, List.drop_succ_cons, List.drop_zero, Nat.zero_add, h1]
      have B9 := Lib.hid (E3.out.b11.fr hf (fun e => by have e' : g9 = g8 := e; have := E3.out.l1; have := E3.out.l2; omega))
      have B8 := Lib.hid k8
      have FF := Lib.hid hf
      clear k8 hf
      go_wp2_with (refine wpList_storeBlk rfl 24 (.tmp 9) _ rfl g9 ZV.toArray rfl rfl _ _ B9.out DZ.out.info rfl DZ.out.one ?_)
      intro wz b5 f5
      have J9 := Lib.hid b5
      have J8 := Lib.hid (B8.out.fr f5 (fun e => by have e' : g8 = g9 := e; have := E3.out.l1; have := E3.out.l2; omega))
      have JF : Hid (Fr Nothing w wz) := (E3.out.fr.then_ FF.out (fun i hi e => by have e' : i = g8 := e; have := E3.out.lo; have := E3.out.l1; omega)).then_ f5 (fun i hi e => by have e' : i = g9 := e; have := E3.out.lo; have := E3.out.l1; have := E3.out.l2; omega)
      clear b5 f5
      go_wp2
      exact bodyPost_ret (results_cells_slot (fn := Tryd.f24) (p := 8) (q := 9) (r := 10) (ty := 24) Tryd.results24 _ wz _ _ 24 ZV.toArray ZV.toArray (0, 0) rfl rfl J8.out J9.out Tryd.underlying24 rfl DZ.out.info DZ.out.info _ rfl) rfl ⟨rfl, JF.out⟩

set_option maxRecDepth 100000 in
set_option maxHeartbeats 1000000 in
theorem Extends_wrong (old : List UInt8) (ho : old.length = 32) (m n : Nat) (h1 : 1 ≤ m) (hmn : m ≤ n) (hn : n ≤ 1048576) (p : Nat) (A : Option Addr) (c : Nat) (w : World) (hp : p ≠ extLen m n true) :
    Calls Tryd.prog 24 #[digV old, .int .i64 m, .int .i64 n, .slice A p c] w (Same' w (.tuple #[digV zeroL, digV zeroL, .int .i64 35])) := by
  have DO : Hid (Dig (digC old).toArray) := Dig.of ho
  have HOV : Hid ((Tryd.prog.info? 24).map (·.size) = some (digC old).length) := by rw [digC, List.length_map, ho]; exact infoD
  have DZ : Hid (Dig (digC zeroL).toArray) := Dig.of zeroL_length
  have HZV : Hid ((Tryd.prog.info? 24).map (·.size) = some (digC zeroL).length) := by rw [digC, List.length_map, zeroL_length]; exact infoD
  have C1 : Hid (∀ w', Calls Tryd.prog 52 #[.int .i64 n, .int .i64 0, .int .i64 1048576] w' (SameW w' (.bool true))) := by
    intro w'
    have h := within_any (n : Int) 0 1048576 w'
    rw [decide_eq_true (by omega)] at h
    exact h
  have C2 : Hid (∀ w', Calls Tryd.prog 52 #[.int .i64 m, .int .i64 0, .int .i64 n] w' (SameW w' (.bool true))) := by
    intro w'
    have h := within_any (m : Int) 0 n w'
    rw [decide_eq_true (by omega)] at h
    exact h
  have CE : Hid (∀ w', Calls Tryd.prog 53 #[.int .i64 m, .int .i64 n, .bool true] w' (SameW w' (.int .i64 (extLen m n true : Nat)))) := fun w' => extensionLength_any n m true w' h1 hmn hn
  generalize extLen m n true = q at *
  have t5 : ((p : Int) == (q : Int)) = false := by rw [beq_eq_false_iff_ne]; omega
  have t6 : ((m : Int) == 0) = false := by rw [beq_eq_false_iff_ne]; omega
  have ZC : Hid ((digC zeroL).toArray = zero32c) := zeroL_cells
  clear ho
  unfold digV at *
  simp only [show ∀ l : List UInt8, l.map bvI = digC l from fun _ => rfl] at *
  generalize digC old = OV at *
  generalize digC zeroL = ZV at *
  go_enter Tryd.func24, Tryd.ntmps24
  go_wp2_with (refine wpList_boxBlk rfl 24 (.tmp 0) rfl _ rfl ?_)
  intro w1 n1
  have N1 := Lib.hid n1
  clear n1
  go_wp2_with (refine wpList_allocBlk rfl 24 rfl zero32 zvD zero32c rfl ?_)
  intro w2 n2
  have N2 := Lib.hid n2
  clear n2
  go_wp2_with (refine wpList_allocBlk rfl 24 rfl zero32 zvD zero32c rfl ?_)
  intro w3 n3
  have E3 := Lib.hid (Ext3.of N1.out N2.out n3)
  clear n3 N1 N2
  generalize w.heap.size = g4 at *
  generalize w1.heap.size = g8 at *
  generalize w2.heap.size = g9 at *
  go_wp2_with fail
  refine (C1.out _).mono ?_
  rintro e w' ⟨rfl, rfl⟩
  go_wp2_with fail
  refine (C2.out _).mono ?_
  rintro e w' ⟨rfl, rfl⟩
  go_wp2_with fail
  refine (CE.out _).mono ?_
  rintro e w' ⟨rfl, rfl⟩
  rw [← ZC.out] at E3
  go_upto_region 4 with fail
  refine wp_region_st 3 (fun k => k = g8) [Is (.agg ZV.toArray), Is (.agg ZV.toArray), fun _ _ => True] [(2, fun w' => Blk w' g8 24 ZV.toArray)] (fun w' => Blk w' g8 24 ZV.toArray) (fun i j => i == 0 && j == 2) (by kernel_rfl) (by kernel_rfl) (by kernel_rfl) (by kernel_rfl) ⟨Is.stable _, Is.stable _, fun _ _ _ _ _ h => h, trivial⟩ ⟨fun _ _ _ hf h => h.fr hf (fun x => x), trivial⟩ (fun _ _ _ hf h => h.fr hf (fun x => x)) E3.out.b10 ?_ ?_
  · refine ⟨fun u w' d hf hR k1 k0 kM => ?_, fun u w' d hf hR k1 k0 kM => ?_, fun u w' d hf hR k1 k0 kM => ?_, trivial⟩
    all_goals simp only [List.take_succ_cons, List.take_zero, List.map_cons, List.map_nil, puts, Act.put, List.setIfInBounds_toArray, List.set_cons_zero, List.set_cons_succ, Nat.reduceAdd, Nat.zero_add]
    · clear hR
      refine .inl ⟨by kernel_rfl, ?_⟩
      have hN : Blk w' g8 24 ZV.toArray := by rw [stage, if_neg (by rw [k0 2 (by kernel_rfl)]; exact Bool.false_ne_true)] at kM; exact kM
      clear k1 k0 kM
      exact wp_load_mid _ _ rfl g8 0 rfl ZV _ (range_blk (hN)) Tryd.underlying24 rfl HZV.out ⟨_, rfl, Fr.refl _ _, rfl, trivial⟩
    · clear hR k1 k0 kM
      refine .inl ⟨by kernel_rfl, ?_⟩
      exact wp_load_mid _ _ rfl g9 0 rfl ZV _ (range_blk (E3.out.b11.fr hf (fun e => by have e' : g9 = g8 := e; have := E3.out.l1; have := E3.out.l2; omega))) Tryd.underlying24 rfl HZV.out ⟨_, rfl, Fr.refl _ _, rfl, trivial⟩
    · have h0 : u 0 = _ := hR 0 (by kernel_rfl)
      clear hR
      simp only [h0]
      refine .inl ⟨by kernel_rfl, ?_⟩
      have hN : Blk w' g8 24 ZV.toArray := by rw [stage, if_neg (by rw [k0 2 (by kernel_rfl)]; exact Bool.false_ne_true)] at kM; exact kM
      clear k1 k0 kM
      refine wp_storeBlk 24 (.tmp 8) (.tmp 28) rfl g8 ZV.toArray rfl rfl _ _ hN DZ.out.info rfl DZ.out.one ?_
      intro w4 b4 f4
      exact ⟨_, rfl, f4, trivial, b4⟩
  · intro u w' hf hR kM
    have h1 : u 1 = _ := hR 1 (by omega)
    clear hR
    have k8 : Blk w' g8 24 ZV.toArray := kM
    clear kM
    simp only [List.take_succ_cons, List.take_zero, List.map_cons, List.map_nil, puts, Act.put, List.setIfInBounds_toArray, List.set_cons_zero, List.set_cons_succ, List.drop_succ_cons, List.drop_zero, Nat.zero_add, h1]
    have B9 := Lib.hid (E3.out.b11.fr hf (fun e => by have e' : g9 = g8 := e; have := E3.out.l1; have := E3.out.l2; omega))
    have B8 := Lib.hid k8
    have FF := Lib.hid hf
    clear k8 hf
    go_wp2_with (refine wpList_storeBlk rfl 24 (.tmp 9) _ rfl g9 ZV.toArray rfl rfl _ _ B9.out DZ.out.info rfl DZ.out.one ?_)
    intro wz b5 f5
    have J9 := Lib.hid b5
    have J8 := Lib.hid (B8.out.fr f5 (fun e => by have e' : g8 = g9 := e; have := E3.out.l1; have := E3.out.l2; omega))
    have JF : Hid (Fr Nothing w wz) := (E3.out.fr.then_ FF.out (fun i hi e => by have e' : i = g8 := e; have := E3.out.lo; have := E3.out.l1; omega)).then_ f5 (fun i hi e => by have e' : i = g9 := e; have := E3.out.lo; have := E3.out.l1; have := E3.out.l2; omega)
    clear b5 f5
    go_wp2
    exact bodyPost_ret (results_cells_slot (fn := Tryd.f24) (p := 8) (q := 9) (r := 10) (ty := 24) Tryd.results24 _ wz _ _ 24 ZV.toArray ZV.toArray (0, 0) rfl rfl J8.out J9.out Tryd.underlying24 rfl DZ.out.info DZ.out.info _ rfl) rfl ⟨rfl, JF.out⟩

set_option maxRecDepth 100000 in
set_option maxHeartbeats 1000000 in
theorem Extends_right (old : List UInt8) (ho : old.length = 32) (m n : Nat) (h1 : 1 ≤ m) (hmn : m ≤ n) (hn : n ≤ 1048576) (path : List (List UInt8)) (p : Nat) (A : Option Addr) (c : Nat) (S : Nat → Prop) (w : World) (hD : DigL w S A p path) (hc : p ≤ c) (hcap : c ≤ 9223372036854775807) (hp : p = extLen m n true) (hT : ShaTab w) :
    Calls Tryd.prog 24 #[digV old, .int .i64 m, .int .i64 n, .slice A p c] w (Same' w (.tuple #[digV (extD old m n true path).1, digV (extD old m n true path).2, .int .i64 0])) := by
  have DO : Hid (Dig (digC old).toArray) := Dig.of ho
  have HOV : Hid ((Tryd.prog.info? 24).map (·.size) = some (digC old).length) := by rw [digC, List.length_map, ho]; exact infoD
  have C1 : Hid (∀ w', Calls Tryd.prog 52 #[.int .i64 n, .int .i64 0, .int .i64 1048576] w' (SameW w' (.bool true))) := by
    intro w'
    have h := within_any (n : Int) 0 1048576 w'
    rw [decide_eq_true (by omega)] at h
    exact h
  have C2 : Hid (∀ w', Calls Tryd.prog 52 #[.int .i64 m, .int .i64 0, .int .i64 n] w' (SameW w' (.bool true))) := by
    intro w'
    have h := within_any (m : Int) 0 n w'
    rw [decide_eq_true (by omega)] at h
    exact h
  have CE : Hid (∀ w', Calls Tryd.prog 53 #[.int .i64 m, .int .i64 n, .bool true] w' (SameW w' (.int .i64 (p : Nat)))) := fun w' => by rw [hp]; exact extensionLength_any n m true w' h1 hmn hn
  have CX : Hid (∀ w', Fr Nothing w w' → Calls Tryd.prog 54 #[digV old, .int .i64 m, .int .i64 n, .bool true, .slice A p c] w' (Same' w' (.tuple #[digV (extD old m n true path).1, digV (extD old m n true path).2]))) :=
    fun w' hf => extend_any n old m true path p A c S w' (hD.fr0 hf) ho h1 hmn hn hp hc hcap (hT.fr0 hf)
  obtain ⟨l1, l2⟩ := extD_length n old m true path h1 hmn (by omega) ho (by rw [hD.len]; exact hp) hD.each
  generalize (extD old m n true path).1 = ra at *
  generalize (extD old m n true path).2 = rb at *
  have DA : Hid (Dig (digC ra).toArray) := Dig.of l1
  have DB : Hid (Dig (digC rb).toArray) := Dig.of l2
  have HAV : Hid ((Tryd.prog.info? 24).map (·.size) = some (digC ra).length) := by rw [digC, List.length_map, l1]; exact infoD
  have HBV : Hid ((Tryd.prog.info? 24).map (·.size) = some (digC rb).length) := by rw [digC, List.length_map, l2]; exact infoD
  have t6 : ((m : Int) == 0) = false := by rw [beq_eq_false_iff_ne]; omega
  clear ho hD l1 l2 hp
  unfold digV at *
  simp only [show ∀ l : List UInt8, l.map bvI = digC l from fun _ => rfl] at *
  generalize digC old = OV at *
  generalize digC ra = AV at *
  generalize digC rb = BV at *
  go_enter Tryd.func24, Tryd.ntmps24
  go_wp2_with (refine wpList_boxBlk rfl 24 (.tmp 0) rfl _ rfl ?_)
  intro w1 n1
  have N1 := Lib.hid n1
  clear n1
  go_wp2_with (refine wpList_allocBlk rfl 24 rfl zero32 zvD zero32c rfl ?_)
  intro w2 n2
  have N2 := Lib.hid n2
  clear n2
  go_wp2_with (refine wpList_allocBlk rfl 24 rfl zero32 zvD zero32c rfl ?_)
  intro w3 n3
  have E3 := Lib.hid (Ext3.of N1.out N2.out n3)
  clear n3 N1 N2
  generalize w.heap.size = g4 at *
  generalize w1.heap.size = g8 at *
  generalize w2.heap.size = g9 at *
  go_wp2_with fail
  refine (C1.out _).mono ?_
  rintro e w' ⟨rfl, rfl⟩
  go_wp2_with fail
  refine (C2.out _).mono ?_
  rintro e w' ⟨rfl, rfl⟩
  go_wp2_with fail
  refine (CE.out _).mono ?_
  rintro e w' ⟨rfl, rfl⟩
  go_wp2_with (refine wpList_loadBlk rfl 24 (.tmp 4) rfl g4 rfl _ OV E3.out.b5 _ Tryd.underlying24 rfl HOV.out ?_)
  refine (CX.out _ E3.out.fr).mono ?_
  rintro e w4 ⟨rfl, f4⟩
  have E4 := Lib.hid (E3.out.later f4)
  clear f4 E3
  go_wp2_with (refine wpList_storeBlk rfl 24 (.tmp 8) _ rfl g8 AV.toArray rfl rfl _ _ E4.out.b10 DA.out.info DA.out.zero DA.out.one ?_)
  intro w5 b5 f5
  have B8 := Lib.hid b5
  have F8 := Lib.hid f5
  have B9 := Lib.hid (E4.out.b11.fr f5 (fun e => by have e' : g9 = g8 := e; have := E4.out.l1; have := E4.out.l2; omega))
  clear b5 f5
  go_wp2_with (refine wpList_storeBlk rfl 24 (.tmp 9) _ rfl g9 BV.toArray rfl rfl _ _ B9.out DB.out.info DB.out.zero DB.out.one ?_)
  intro w6 b6 f6
  have E6 := Lib.hid (E4.out.stored F8.out B8.out f6 b6)
  clear b6 f6 E4 B8 B9 F8
  go_upto_region 8 with fail
  refine wp_region_st 3 (fun k => k = g8) [Is (.agg AV.toArray), Is (.agg BV.toArray), fun _ _ => True] [(2, fun w' => Blk w' g8 24 AV.toArray)] (fun w' => Blk w' g8 24 AV.toArray) (fun i j => i == 0 && j == 2) (by kernel_rfl) (by kernel_rfl) (by kernel_rfl) (by kernel_rfl) ⟨Is.stable _, Is.stable _, fun _ _ _ _ _ h => h, trivial⟩ ⟨fun _ _ _ hf h => h.fr hf (fun x => x), trivial⟩ (fun _ _ _ hf h => h.fr hf (fun x => x)) E6.out.b10 ?_ ?_
  · refine ⟨fun u w' d hf hR k1 k0 kM => ?_, fun u w' d hf hR k1 k0 kM => ?_, fun u w' d hf hR k1 k0 kM => ?_, trivial⟩
    all_goals simp only [List.take_succ_cons, List.take_zero, List.map_cons, List.map_nil, puts, Act.put, List.setIfInBounds_toArray, List.set_cons_zero, List.set_cons_succ, Nat.reduceAdd, Nat.zero_add]
    · clear hR
      refine .inl ⟨by kernel_rfl, ?_⟩
      have hN : Blk w' g8 24 AV.toArray := by rw [stage, if_neg (by rw [k0 2 (by kernel_rfl)]; exact Bool.false_ne_true)] at kM; exact kM
      clear k1 k0 kM
      exact wp_load_mid _ _ rfl g8 0 rfl AV _ (range_blk (hN)) Tryd.underlying24 rfl HAV.out ⟨_, rfl, Fr.refl _ _, rfl, trivial⟩
    · clear hR k1 k0 kM
      refine .inl ⟨by kernel_rfl, ?_⟩
      exact wp_load_mid _ _ rfl g9 0 rfl BV _ (range_blk (E6.out.b11.fr hf (fun e => by have e' : g9 = g8 := e; have := E6.out.l1; have := E6.out.l2; omega))) Tryd.underlying24 rfl HBV.out ⟨_, rfl, Fr.refl _ _, rfl, trivial⟩
    · have h0 : u 0 = _ := hR 0 (by kernel_rfl)
      clear hR
      simp only [h0]
      refine .inl ⟨by kernel_rfl, ?_⟩
      have hN : Blk w' g8 24 AV.toArray := by rw [stage, if_neg (by rw [k0 2 (by kernel_rfl)]; exact Bool.false_ne_true)] at kM; exact kM
      clear k1 k0 kM
      refine wp_storeBlk 24 (.tmp 8) (.tmp 42) rfl g8 AV.toArray rfl rfl _ _ hN DA.out.info rfl DA.out.one ?_
      intro w4 b4 f4
      exact ⟨_, rfl, f4, trivial, b4⟩
  · intro u w' hf hR kM
    have h1 : u 1 = _ := hR 1 (by omega)
    clear hR
    have k8 : Blk w' g8 24 AV.toArray := kM
    clear kM
    simp only [List.take_succ_cons, List.take_zero, List.map_cons, List.map_nil, puts, Act.put, List.setIfInBounds_toArray, List.set_cons_zero, List.set_cons_succ, List.drop_succ_cons, List.drop_zero, Nat.zero_add, h1]
    have B9 := Lib.hid (E6.out.b11.fr hf (fun e => by have e' : g9 = g8 := e; have := E6.out.l1; have := E6.out.l2; omega))
    have B8 := Lib.hid k8
    have FF := Lib.hid hf
    clear k8 hf
    go_wp2_with (refine wpList_storeBlk rfl 24 (.tmp 9) _ rfl g9 BV.toArray rfl rfl _ _ B9.out DB.out.info rfl DB.out.one ?_)
    intro wz b5 f5
    have J9 := Lib.hid b5
    have J8 := Lib.hid (B8.out.fr f5 (fun e => by have e' : g8 = g9 := e; have := E6.out.l1; have := E6.out.l2; omega))
    have JF : Hid (Fr Nothing w wz) := (E6.out.fr.then_ FF.out (fun i hi e => by have e' : i = g8 := e; have := E6.out.lo; have := E6.out.l1; omega)).then_ f5 (fun i hi e => by have e' : i = g9 := e; have := E6.out.lo; have := E6.out.l1; have := E6.out.l2; omega)
    clear b5 f5
    go_wp2
    exact bodyPost_ret (results_cells_slot (fn := Tryd.f24) (p := 8) (q := 9) (r := 10) (ty := 24) Tryd.results24 _ wz _ _ 24 AV.toArray BV.toArray (0, 0) rfl rfl J8.out J9.out Tryd.underlying24 rfl DA.out.info DB.out.info _ rfl) rfl ⟨rfl, JF.out⟩

set_option maxRecDepth 100000 in
set_option maxHeartbeats 1000000 in
theorem rExtends_range (old : List UInt8) (ho : old.length = 32) (m n : Int) (v : Value) (w : World) (hr : ¬ (0 ≤ n ∧ n ≤ 1048576 ∧ 0 ≤ m ∧ m ≤ n)) :
    Calls Tryd.prog 25 #[digV old, .int .i64 m, .int .i64 n, v] w (Same' w (.tuple #[digV zeroL, digV zeroL, .int .i64 2])) := by
  have DO : Hid (Dig (digC old).toArray) := Dig.of ho
  have HOV : Hid ((Tryd.prog.info? 23).map (·.size) = some (digC old).length) := by rw [digC, List.length_map, ho]; exact info32
  have DZ : Hid (Dig (digC zeroL).toArray) := Dig.of zeroL_length
  have HZV : Hid ((Tryd.prog.info? 23).map (·.size) = some (digC zeroL).length) := by rw [digC, List.length_map, zeroL_length]; exact info32
  have CZ : Hid (Tryd.prog.built 23 [] = some (digC zeroL).toArray) := built23
  clear ho
  unfold digV at *
  simp only [show ∀ l : List UInt8, l.map bvI = digC l from fun _ => rfl] at *
  generalize digC old = OV at *
  generalize digC zeroL = ZV at *
  by_cases h1 : n < 0
  · have t1 : decide (n < 0) = true := decide_eq_true h1
    go_enter Tryd.func25, Tryd.ntmps25
    go_wp2_with (refine wpList_boxBlk rfl 23 (.tmp 0) rfl _ rfl ?_)
    intro w1 n1
    have N1 := Lib.hid n1
    clear n1
    go_wp2_with (refine wpList_allocBlk rfl 23 rfl zero32 zv32 zero32c rfl ?_)
    intro w2 n2
    have N2 := Lib.hid n2
    clear n2
    go_wp2_with (refine wpList_allocBlk rfl 23 rfl zero32 zv32 zero32c rfl ?_)
    intro w3 n3
    have E3 := Lib.hid (Ext3.of N1.out N2.out n3)
    clear n3 N1 N2
    generalize w.heap.size = g4 at *
    generalize w1.heap.size = g8 at *
    generalize w2.heap.size = g9 at *
    go_upto_region 2 with fail
    refine wp_region_lit ?_
    refine wpList_build0 rfl 23 rfl ZV.toArray CZ.out ?_
    refine wpList_build0 rfl 23 rfl ZV.toArray CZ.out ?_
    refine wpList_storeBlk rfl 23 (.tmp 8) (.tmp 26) rfl g8 ZV.toArray rfl rfl _ _ E3.out.b10 DZ.out.infoR DZ.out.zero DZ.out.one ?_
    intro w4 b4 f4
    have B8 := Lib.hid b4
    have B9 := Lib.hid (E3.out.b11.fr f4 (fun e => by have e' : g9 = g8 := e; have := E3.out.l1; have := E3.out.l2; omega))
    have FF := Lib.hid f4
    clear b4 f4
    refine wpList_storeBlk rfl 23 (.tmp 9) (.tmp 27) rfl g9 ZV.toArray rfl rfl _ _ B9.out DZ.out.infoR DZ.out.zero DZ.out.one ?_
    intro wz b5 f5
    have J9 := Lib.hid b5
    have J8 := Lib.hid (B8.out.fr f5 (fun e => by have e' : g8 = g9 := e; have := E3.out.l1; have := E3.out.l2; omega))
    have JF : Hid (Fr Nothing w wz) := (E3.out.fr.then_ FF.out (fun i hi e => by have e' : i = g8 := e; have := E3.out.lo; have := E3.out.l1; omega)).then_ f5 (fun i hi e => by have e' : i = g9 := e; have := E3.out.lo; have := E3.out.l1; have := E3.out.l2; omega)
    clear b5 f5
    go_wp2
    exact bodyPost_ret (results_cells_slot (fn := Tryd.f25) (p := 8) (q := 9) (r := 10) (ty := 23) Tryd.results25 _ wz _ _ 23 ZV.toArray ZV.toArray (0, 0) rfl rfl J8.out J9.out Tryd.underlying23 rfl DZ.out.infoR DZ.out.infoR _ rfl) rfl ⟨rfl, JF.out⟩
  · have t1 : decide (n < 0) = false := decide_eq_false h1
    by_cases h2 : 1048576 < n
    · have t2 : decide (1048576 < n) = true := decide_eq_true h2
      go_enter Tryd.func25, Tryd.ntmps25
      go_wp2_with (refine wpList_boxBlk rfl 23 (.tmp 0) rfl _ rfl ?_)
      intro w1 n1
      have N1 := Lib.hid n1
      clear n1
      go_wp2_with (refine wpList_allocBlk rfl 23 rfl zero32 zv32 zero32c rfl ?_)
      intro w2 n2
      have N2 := Lib.hid n2
      clear n2
      go_wp2_with (refine wpList_allocBlk rfl 23 rfl zero32 zv32 zero32c rfl ?_)
      intro w3 n3
      have E3 := Lib.hid (Ext3.of N1.out N2.out n3)
      clear n3 N1 N2
      generalize w.heap.size = g4 at *
      generalize w1.heap.size = g8 at *
      generalize w2.heap.size = g9 at *
      go_upto_region 2 with fail
      refine wp_region_lit ?_
      refine wpList_build0 rfl 23 rfl ZV.toArray CZ.out ?_
      refine wpList_build0 rfl 23 rfl ZV.toArray CZ.out ?_
      refine wpList_storeBlk rfl 23 (.tmp 8) (.tmp 26) rfl g8 ZV.toArray rfl rfl _ _ E3.out.b10 DZ.out.infoR DZ.out.zero DZ.out.one ?_
      intro w4 b4 f4
      have B8 := Lib.hid b4
      have B9 := Lib.hid (E3.out.b11.fr f4 (fun e => by have e' : g9 = g8 := e; have := E3.out.l1; have := E3.out.l2; omega))
      have FF := Lib.hid f4
      clear b4 f4
      refine wpList_storeBlk rfl 23 (.tmp 9) (.tmp 27) rfl g9 ZV.toArray rfl rfl _ _ B9.out DZ.out.infoR DZ.out.zero DZ.out.one ?_
      intro wz b5 f5
      have J9 := Lib.hid b5
      have J8 := Lib.hid (B8.out.fr f5 (fun e => by have e' : g8 = g9 := e; have := E3.out.l1; have := E3.out.l2; omega))
      have JF : Hid (Fr Nothing w wz) := (E3.out.fr.then_ FF.out (fun i hi e => by have e' : i = g8 := e; have := E3.out.lo; have := E3.out.l1; omega)).then_ f5 (fun i hi e => by have e' : i = g9 := e; have := E3.out.lo; have := E3.out.l1; have := E3.out.l2; omega)
      clear b5 f5
      go_wp2
      exact bodyPost_ret (results_cells_slot (fn := Tryd.f25) (p := 8) (q := 9) (r := 10) (ty := 23) Tryd.results25 _ wz _ _ 23 ZV.toArray ZV.toArray (0, 0) rfl rfl J8.out J9.out Tryd.underlying23 rfl DZ.out.infoR DZ.out.infoR _ rfl) rfl ⟨rfl, JF.out⟩
    · have t2 : decide (1048576 < n) = false := decide_eq_false h2
      by_cases h3 : m < 0
      · have t3 : decide (m < 0) = true := decide_eq_true h3
        go_enter Tryd.func25, Tryd.ntmps25
        go_wp2_with (refine wpList_boxBlk rfl 23 (.tmp 0) rfl _ rfl ?_)
        intro w1 n1
        have N1 := Lib.hid n1
        clear n1
        go_wp2_with (refine wpList_allocBlk rfl 23 rfl zero32 zv32 zero32c rfl ?_)
        intro w2 n2
        have N2 := Lib.hid n2
        clear n2
        go_wp2_with (refine wpList_allocBlk rfl 23 rfl zero32 zv32 zero32c rfl ?_)
        intro w3 n3
        have E3 := Lib.hid (Ext3.of N1.out N2.out n3)
        clear n3 N1 N2
        generalize w.heap.size = g4 at *
        generalize w1.heap.size = g8 at *
        generalize w2.heap.size = g9 at *
        go_upto_region 2 with fail
        refine wp_region_lit ?_
        refine wpList_build0 rfl 23 rfl ZV.toArray CZ.out ?_
        refine wpList_build0 rfl 23 rfl ZV.toArray CZ.out ?_
        refine wpList_storeBlk rfl 23 (.tmp 8) (.tmp 26) rfl g8 ZV.toArray rfl rfl _ _ E3.out.b10 DZ.out.infoR DZ.out.zero DZ.out.one ?_
        intro w4 b4 f4
        have B8 := Lib.hid b4
        have B9 := Lib.hid (E3.out.b11.fr f4 (fun e => by have e' : g9 = g8 := e; have := E3.out.l1; have := E3.out.l2; omega))
        have FF := Lib.hid f4
        clear b4 f4
        refine wpList_storeBlk rfl 23 (.tmp 9) (.tmp 27) rfl g9 ZV.toArray rfl rfl _ _ B9.out DZ.out.infoR DZ.out.zero DZ.out.one ?_
        intro wz b5 f5
        have J9 := Lib.hid b5
        have J8 := Lib.hid (B8.out.fr f5 (fun e => by have e' : g8 = g9 := e; have := E3.out.l1; have := E3.out.l2; omega))
        have JF : Hid (Fr Nothing w wz) := (E3.out.fr.then_ FF.out (fun i hi e => by have e' : i = g8 := e; have := E3.out.lo; have := E3.out.l1; omega)).then_ f5 (fun i hi e => by have e' : i = g9 := e; have := E3.out.lo; have := E3.out.l1; have := E3.out.l2; omega)
        clear b5 f5
        go_wp2
        exact bodyPost_ret (results_cells_slot (fn := Tryd.f25) (p := 8) (q := 9) (r := 10) (ty := 23) Tryd.results25 _ wz _ _ 23 ZV.toArray ZV.toArray (0, 0) rfl rfl J8.out J9.out Tryd.underlying23 rfl DZ.out.infoR DZ.out.infoR _ rfl) rfl ⟨rfl, JF.out⟩
      · have t3 : decide (m < 0) = false := decide_eq_false h3
        have t4 : decide (n < m) = true := decide_eq_true (by omega)
        go_enter Tryd.func25, Tryd.ntmps25
        go_wp2_with (refine wpList_boxBlk rfl 23 (.tmp 0) rfl _ rfl ?_)
        intro w1 n1
        have N1 := Lib.hid n1
        clear n1
        go_wp2_with (refine wpList_allocBlk rfl 23 rfl zero32 zv32 zero32c rfl ?_)
        intro w2 n2
        have N2 := Lib.hid n2
        clear n2
        go_wp2_with (refine wpList_allocBlk rfl 23 rfl zero32 zv32 zero32c rfl ?_)
        intro w3 n3
        have E3 := Lib.hid (Ext3.of N1.out N2.out n3)
        clear n3 N1 N2
        generalize w.heap.size = g4 at *
        generalize w1.heap.size = g8 at *
        generalize w2.heap.size = g9 at *
        go_upto_region 2 with fail
        refine wp_region_lit ?_
        refine wpList_build0 rfl 23 rfl ZV.toArray CZ.out ?_
        refine wpList_build0 rfl 23 rfl ZV.toArray CZ.out ?_
        refine wpList_storeBlk rfl 23 (.tmp 8) (.tmp 26) rfl g8 ZV.toArray rfl rfl _ _ E3.out.b10 DZ.out.infoR DZ.out.zero DZ.out.one ?_
        intro w4 b4 f4
        have B8 := Lib.hid b4
        have B9 := Lib.hid (E3.out.b11.fr f4 (fun e => by have e' : g9 = g8 := e; have := E3.out.l1; have := E3.out.l2; omega))
        have FF := Lib.hid f4
        clear b4 f4
        refine wpList_storeBlk rfl 23 (.tmp 9) (.tmp 27) rfl g9 ZV.toArray rfl rfl _ _ B9.out DZ.out.infoR DZ.out.zero DZ.out.one ?_
        intro wz b5 f5
        have J9 := Lib.hid b5
        have J8 := Lib.hid (B8.out.fr f5 (fun e => by have e' : g8 = g9 := e; have := E3.out.l1; have := E3.out.l2; omega))
        have JF : Hid (Fr Nothing w wz) := (E3.out.fr.then_ FF.out (fun i hi e => by have e' : i = g8 := e; have := E3.out.lo; have := E3.out.l1; omega)).then_ f5 (fun i hi e => by have e' : i = g9 := e; have := E3.out.lo; have := E3.out.l1; have := E3.out.l2; omega)
        clear b5 f5
        go_wp2
        exact bodyPost_ret (results_cells_slot (fn := Tryd.f25) (p := 8) (q := 9) (r := 10) (ty := 23) Tryd.results25 _ wz _ _ 23 ZV.toArray ZV.toArray (0, 0) rfl rfl J8.out J9.out Tryd.underlying23 rfl DZ.out.infoR DZ.out.infoR _ rfl) rfl ⟨rfl, JF.out⟩

set_option maxRecDepth 100000 in
set_option maxHeartbeats 1000000 in
theorem rExtends_zero (old : List UInt8) (ho : old.length = 32) (n : Nat) (hn : n ≤ 1048576) (p : Nat) (A : Option Addr) (c : Nat) (w : World) :
    Calls Tryd.prog 25 #[digV old, .int .i64 0, .int .i64 n, .slice A p c] w (Same' w (if p = 0 then .tuple #[digV old, digV zeroL, .int .i64 0] else .tuple #[digV zeroL, digV zeroL, .int .i64 35])) := by
  have DO : Hid (Dig (digC old).toArray) := Dig.of ho
  have HOV : Hid ((Tryd.prog.info? 23).map (·.size) = some (digC old).length) := by rw [digC, List.length_map, ho]; exact info32
  have DZ : Hid (Dig (digC zeroL).toArray) := Dig.of zeroL_length
  have HZV : Hid ((Tryd.prog.info? 23).map (·.size) = some (digC zeroL).length) := by rw [digC, List.length_map, zeroL_length]; exact info32
  have CZ : Hid (Tryd.prog.built 23 [] = some (digC zeroL).toArray) := built23
  have t1 : decide ((n : Int) < 0) = false := decide_eq_false (by omega)
  have t2 : decide ((1048576 : Int) < (n : Int)) = false := decide_eq_false (by omega)
  clear ho
  unfold digV at *
  simp only [show ∀ l : List UInt8, l.map bvI = digC l from fun _ => rfl] at *
  generalize digC old = OV at *
  generalize digC zeroL = ZV at *
  by_cases h0 : p = 0
  · subst h0
    rw [if_pos rfl]
    go_enter Tryd.func25, Tryd.ntmps25
    go_wp2_with (refine wpList_boxBlk rfl 23 (.tmp 0) rfl _ rfl ?_)
    intro w1 n1
    have N1 := Lib.hid n1
    clear n1
    go_wp2_with (refine wpList_allocBlk rfl 23 rfl zero32 zv32 zero32c rfl ?_)
    intro w2 n2
    have N2 := Lib.hid n2
    clear n2
    go_wp2_with (refine wpList_allocBlk rfl 23 rfl zero32 zv32 zero32c rfl ?_)
    intro w3 n3
    have E3 := Lib.hid (Ext3.of N1.out N2.out n3)
    clear n3 N1 N2
    generalize w.heap.size = g4 at *
    generalize w1.heap.size = g8 at *
    generalize w2.heap.size = g9 at *
    go_upto_region 6 with fail
    refine wp_region_lit ?_
    refine wpList_loadBlk rfl 23 (.tmp 4) rfl g4 rfl _ OV E3.out.b5 _ Tryd.underlying23 rfl HOV.out ?_
    refine wpList_build0 rfl 23 rfl ZV.toArray CZ.out ?_
    refine wpList_storeBlk rfl 23 (.tmp 8) (.tmp 35) rfl g8 OV.toArray rfl rfl _ _ E3.out.b10 DO.out.infoR DO.out.zero DO.out.one ?_
    intro w4 b4 f4
    have B8 := Lib.hid b4
    have B9 := Lib.hid (E3.out.b11.fr f4 (fun e => by have e' : g9 = g8 := e; have := E3.out.l1; have := E3.out.l2; omega))
    have FF := Lib.hid f4
    clear b4 f4
    refine wpList_storeBlk rfl 23 (.tmp 9) (.tmp 36) rfl g9 ZV.toArray rfl rfl _ _ B9.out DZ.out.infoR DZ.out.zero DZ.out.one ?_
    intro wz b5 f5
    have J9 := Lib.hid b5
    have J8 := Lib.hid (B8.out.fr f5 (fun e => by have e' : g8 = g9 := e; have := E3.out.l1; have := E3.out.l2; omega))
    have JF : Hid (Fr Nothing w wz) := (E3.out.fr.then_ FF.out (fun i hi e => by have e' : i = g8 := e; have := E3.out.lo; have := E3.out.l1; omega)).then_ f5 (fun i hi e => by have e' : i = g9 := e; have := E3.out.lo; have := E3.out.l1; have := E3.out.l2; omega)
    clear b5 f5
    go_wp2
    exact bodyPost_ret (results_cells_slot (fn := Tryd.f25) (p := 8) (q := 9) (r := 10) (ty := 23) Tryd.results25 _ wz _ _ 23 OV.toArray ZV.toArray (0, 0) rfl rfl J8.out J9.out Tryd.underlying23 rfl DO.out.infoR DZ.out.infoR _ rfl) rfl ⟨rfl, JF.out⟩
  · rw [if_neg h0]
    have t5 : decide ((0 : Int) < (p : Int)) = true := decide_eq_true (by omega)
    have t6 : 0 < p := by omega
    go_enter Tryd.func25, Tryd.ntmps25
    go_wp2_with (refine wpList_boxBlk rfl 23 (.tmp 0) rfl _ rfl ?_)
    intro w1 n1
    have N1 := Lib.hid n1
    clear n1
    go_wp2_with (refine wpList_allocBlk rfl 23 rfl zero32 zv32 zero32c rfl ?_)
    intro w2 n2
    have N2 := Lib.hid n2
    clear n2
    go_wp2_with (refine wpList_allocBlk rfl 23 rfl zero32 zv32 zero32c rfl ?_)
    intro w3 n3
    have E3 := Lib.hid (Ext3.of N1.out N2.out n3)
    clear n3 N1 N2
    generalize w.heap.size = g4 at *
    generalize w1.heap.size = g8 at *
    generalize w2.heap.size = g9 at *
    go_upto_region 5 with fail
    refine wp_region_lit ?_
    refine wpList_build0 rfl 23 rfl ZV.toArray CZ.out ?_
    refine wpList_build0 rfl 23 rfl ZV.toArray CZ.out ?_
    refine wpList_storeBlk rfl 23 (.tmp 8) (.tmp 33) rfl g8 ZV.toArray rfl rfl _ _ E3.out.b10 DZ.out.infoR DZ.out.zero DZ.out.one ?_
    intro w4 b4 f4
    have B8 := Lib.hid b4
    have B9 := Lib.hid (E3.out.b11.fr f4 (fun e => by have e' : g9 = g8 := e; have := E3.out.l1; have := E3.out.l2; omega))
    have FF := Lib.hid f4
    clear b4 f4
    refine wpList_storeBlk rfl 23 (.tmp 9) (.tmp 34) rfl g9 ZV.toArray rfl rfl _ _ B9.out DZ.out.infoR DZ.out.zero DZ.out.one ?_
    intro wz b5 f5
    have J9 := Lib.hid b5
    have J8 := Lib.hid (B8.out.fr f5 (fun e => by have e' : g8 = g9 := e; have := E3.out.l1; have := E3.out.l2; omega))
    have JF : Hid (Fr Nothing w wz) := (E3.out.fr.then_ FF.out (fun i hi e => by have e' : i = g8 := e; have := E3.out.lo; have := E3.out.l1; omega)).then_ f5 (fun i hi e => by have e' : i = g9 := e; have := E3.out.lo; have := E3.out.l1; have := E3.out.l2; omega)
    clear b5 f5
    go_wp2
    exact bodyPost_ret (results_cells_slot (fn := Tryd.f25) (p := 8) (q := 9) (r := 10) (ty := 23) Tryd.results25 _ wz _ _ 23 ZV.toArray ZV.toArray (0, 0) rfl rfl J8.out J9.out Tryd.underlying23 rfl DZ.out.infoR DZ.out.infoR _ rfl) rfl ⟨rfl, JF.out⟩

set_option maxRecDepth 100000 in
set_option maxHeartbeats 1000000 in
theorem rExtends_wrong (old : List UInt8) (ho : old.length = 32) (m n : Nat) (h1 : 1 ≤ m) (hmn : m ≤ n) (hn : n ≤ 1048576) (p : Nat) (A : Option Addr) (c : Nat) (w : World) (hp : p ≠ extLen m n true) :
    Calls Tryd.prog 25 #[digV old, .int .i64 m, .int .i64 n, .slice A p c] w (Same' w (.tuple #[digV zeroL, digV zeroL, .int .i64 35])) := by
  have DO : Hid (Dig (digC old).toArray) := Dig.of ho
  have HOV : Hid ((Tryd.prog.info? 23).map (·.size) = some (digC old).length) := by rw [digC, List.length_map, ho]; exact info32
  have DZ : Hid (Dig (digC zeroL).toArray) := Dig.of zeroL_length
  have HZV : Hid ((Tryd.prog.info? 23).map (·.size) = some (digC zeroL).length) := by rw [digC, List.length_map, zeroL_length]; exact info32
  have CZ : Hid (Tryd.prog.built 23 [] = some (digC zeroL).toArray) := built23
  have t1 : decide ((n : Int) < 0) = false := decide_eq_false (by omega)
  have t2 : decide ((1048576 : Int) < (n : Int)) = false := decide_eq_false (by omega)
  have t3 : decide ((m : Int) < 0) = false := decide_eq_false (by omega)
  have t4 : decide ((n : Int) < (m : Int)) = false := decide_eq_false (by omega)
  have CE : Hid (∀ w', Calls Tryd.prog 55 #[.int .i64 m, .int .i64 n, .bool true] w' (SameW w' (.int .i64 (extLen m n true : Nat)))) := fun w' => extended_any n m true w' h1 hmn hn
  generalize extLen m n true = q at *
  have t5 : ((p : Int) == (q : Int)) = false := by rw [beq_eq_false_iff_ne]; omega
  have t6 : ((m : Int) == 0) = false := by rw [beq_eq_false_iff_ne]; omega
  clear ho
  unfold digV at *
  simp only [show ∀ l : List UInt8, l.map bvI = digC l from fun _ => rfl] at *
  generalize digC old = OV at *
  generalize digC zeroL = ZV at *
  go_enter Tryd.func25, Tryd.ntmps25
  go_wp2_with (refine wpList_boxBlk rfl 23 (.tmp 0) rfl _ rfl ?_)
  intro w1 n1
  have N1 := Lib.hid n1
  clear n1
  go_wp2_with (refine wpList_allocBlk rfl 23 rfl zero32 zv32 zero32c rfl ?_)
  intro w2 n2
  have N2 := Lib.hid n2
  clear n2
  go_wp2_with (refine wpList_allocBlk rfl 23 rfl zero32 zv32 zero32c rfl ?_)
  intro w3 n3
  have E3 := Lib.hid (Ext3.of N1.out N2.out n3)
  clear n3 N1 N2
  generalize w.heap.size = g4 at *
  generalize w1.heap.size = g8 at *
  generalize w2.heap.size = g9 at *
  go_wp2_with fail
  refine (CE.out _).mono ?_
  rintro e w' ⟨rfl, rfl⟩
  go_upto_region 8 with fail
  refine wp_region_lit ?_
  refine wpList_build0 rfl 23 rfl ZV.toArray CZ.out ?_
  refine wpList_build0 rfl 23 rfl ZV.toArray CZ.out ?_
  refine wpList_storeBlk rfl 23 (.tmp 8) (.tmp 43) rfl g8 ZV.toArray rfl rfl _ _ E3.out.b10 DZ.out.infoR DZ.out.zero DZ.out.one ?_
  intro w4 b4 f4
  have B8 := Lib.hid b4
  have B9 := Lib.hid (E3.out.b11.fr f4 (fun e => by have e' : g9 = g8 := e; have := E3.out.l1; have := E3.out.l2; omega))
  have FF := Lib.hid f4
  clear b4 f4
  refine wpList_storeBlk rfl 23 (.tmp 9) (.tmp 44) rfl g9 ZV.toArray rfl rfl _ _ B9.out DZ.out.infoR DZ.out.zero DZ.out.one ?_
  intro wz b5 f5
  have J9 := Lib.hid b5
  have J8 := Lib.hid (B8.out.fr f5 (fun e => by have e' : g8 = g9 := e; have := E3.out.l1; have := E3.out.l2; omega))
  have JF : Hid (Fr Nothing w wz) := (E3.out.fr.then_ FF.out (fun i hi e => by have e' : i = g8 := e; have := E3.out.lo; have := E3.out.l1; omega)).then_ f5 (fun i hi e => by have e' : i = g9 := e; have := E3.out.lo; have := E3.out.l1; have := E3.out.l2; omega)
  clear b5 f5
  go_wp2
  exact bodyPost_ret (results_cells_slot (fn := Tryd.f25) (p := 8) (q := 9) (r := 10) (ty := 23) Tryd.results25 _ wz _ _ 23 ZV.toArray ZV.toArray (0, 0) rfl rfl J8.out J9.out Tryd.underlying23 rfl DZ.out.infoR DZ.out.infoR _ rfl) rfl ⟨rfl, JF.out⟩

set_option maxRecDepth 100000 in
set_option maxHeartbeats 1000000 in
theorem rExtends_right (old : List UInt8) (ho : old.length = 32) (m n : Nat) (h1 : 1 ≤ m) (hmn : m ≤ n) (hn : n ≤ 1048576) (path : List (List UInt8)) (p : Nat) (A : Option Addr) (c : Nat) (S : Nat → Prop) (w : World) (hD : DigL w S A p path) (hc : p ≤ c) (hcap : c ≤ 9223372036854775807) (hp : p = extLen m n true) :
    Calls Tryd.prog 25 #[digV old, .int .i64 m, .int .i64 n, .slice A p c] w (Same' w (.tuple #[digV (extD old m n true path).1, digV (extD old m n true path).2, .int .i64 0])) := by
  have DO : Hid (Dig (digC old).toArray) := Dig.of ho
  have HOV : Hid ((Tryd.prog.info? 23).map (·.size) = some (digC old).length) := by rw [digC, List.length_map, ho]; exact info32
  have t1 : decide ((n : Int) < 0) = false := decide_eq_false (by omega)
  have t2 : decide ((1048576 : Int) < (n : Int)) = false := decide_eq_false (by omega)
  have t3 : decide ((m : Int) < 0) = false := decide_eq_false (by omega)
  have t4 : decide ((n : Int) < (m : Int)) = false := decide_eq_false (by omega)
  have CE : Hid (∀ w', Calls Tryd.prog 55 #[.int .i64 m, .int .i64 n, .bool true] w' (SameW w' (.int .i64 (p : Nat)))) := fun w' => by rw [hp]; exact extended_any n m true w' h1 hmn hn
  have CX : Hid (∀ w', Fr Nothing w w' → Calls Tryd.prog 56 #[digV old, .int .i64 m, .int .i64 n, .bool true, .slice A p c] w' (Same' w' (.tuple #[digV (extD old m n true path).1, digV (extD old m n true path).2]))) :=
    fun w' hf => extends_any n old m true path p A c S w' (hD.fr0 hf) ho h1 hmn hn hp hc hcap
  obtain ⟨l1, l2⟩ := extD_length n old m true path h1 hmn (by omega) ho (by rw [hD.len]; exact hp) hD.each
  generalize (extD old m n true path).1 = ra at *
  generalize (extD old m n true path).2 = rb at *
  have DA : Hid (Dig (digC ra).toArray) := Dig.of l1
  have DB : Hid (Dig (digC rb).toArray) := Dig.of l2
  have HAV : Hid ((Tryd.prog.info? 23).map (·.size) = some (digC ra).length) := by rw [digC, List.length_map, l1]; exact info32
  have HBV : Hid ((Tryd.prog.info? 23).map (·.size) = some (digC rb).length) := by rw [digC, List.length_map, l2]; exact info32
  have t6 : ((m : Int) == 0) = false := by rw [beq_eq_false_iff_ne]; omega
  clear ho hD l1 l2 hp
  unfold digV at *
  simp only [show ∀ l : List UInt8, l.map bvI = digC l from fun _ => rfl] at *
  generalize digC old = OV at *
  generalize digC ra = AV at *
  generalize digC rb = BV at *
  go_enter Tryd.func25, Tryd.ntmps25
  go_wp2_with (refine wpList_boxBlk rfl 23 (.tmp 0) rfl _ rfl ?_)
  intro w1 n1
  have N1 := Lib.hid n1
  clear n1
  go_wp2_with (refine wpList_allocBlk rfl 23 rfl zero32 zv32 zero32c rfl ?_)
  intro w2 n2
  have N2 := Lib.hid n2
  clear n2
  go_wp2_with (refine wpList_allocBlk rfl 23 rfl zero32 zv32 zero32c rfl ?_)
  intro w3 n3
  have E3 := Lib.hid (Ext3.of N1.out N2.out n3)
  clear n3 N1 N2
  generalize w.heap.size = g4 at *
  generalize w1.heap.size = g8 at *
  generalize w2.heap.size = g9 at *
  go_wp2_with fail
  refine (CE.out _).mono ?_
  rintro e w' ⟨rfl, rfl⟩
  go_wp2_with (refine wpList_loadBlk rfl 23 (.tmp 4) rfl g4 rfl _ OV E3.out.b5 _ Tryd.underlying23 rfl HOV.out ?_)
  refine (CX.out _ E3.out.fr).mono ?_
  rintro e w4 ⟨rfl, f4⟩
  have E4 := Lib.hid (E3.out.later f4)
  clear f4 E3
  go_wp2_with (refine wpList_storeBlk rfl 23 (.tmp 8) _ rfl g8 AV.toArray rfl rfl _ _ E4.out.b10 DA.out.infoR DA.out.zero DA.out.one ?_)
  intro w5 b5 f5
  have B8 := Lib.hid b5
  have F8 := Lib.hid f5
  have B9 := Lib.hid (E4.out.b11.fr f5 (fun e => by have e' : g9 = g8 := e; have := E4.out.l1; have := E4.out.l2; omega))
  clear b5 f5
  go_wp2_with (refine wpList_storeBlk rfl 23 (.tmp 9) _ rfl g9 BV.toArray rfl rfl _ _ B9.out DB.out.infoR DB.out.zero DB.out.one ?_)
  intro w6 b6 f6
  have E6 := Lib.hid (E4.out.stored F8.out B8.out f6 b6)
  clear b6 f6 E4 B8 B9 F8
  go_upto_region 10 with fail
  refine wp_region_st 3 (fun k => k = g8) [Is (.agg AV.toArray), Is (.agg BV.toArray), fun _ _ => True] [(2, fun w' => Blk w' g8 23 AV.toArray)] (fun w' => Blk w' g8 23 AV.toArray) (fun i j => i == 0 && j == 2) (by kernel_rfl) (by kernel_rfl) (by kernel_rfl) (by kernel_rfl) ⟨Is.stable _, Is.stable _, fun _ _ _ _ _ h => h, trivial⟩ ⟨fun _ _ _ hf h => h.fr hf (fun x => x), trivial⟩ (fun _ _ _ hf h => h.fr hf (fun x => x)) E6.out.b10 ?_ ?_
  · refine ⟨fun u w' d hf hR k1 k0 kM => ?_, fun u w' d hf hR k1 k0 kM => ?_, fun u w' d hf hR k1 k0 kM => ?_, trivial⟩
    all_goals simp only [List.take_succ_cons, List.take_zero, List.map_cons, List.map_nil, puts, Act.put, List.setIfInBounds_toArray, List.set_cons_zero, List.set_cons_succ, Nat.reduceAdd, Nat.zero_add]
    · clear hR
      refine .inl ⟨by kernel_rfl, ?_⟩
      have hN : Blk w' g8 23 AV.toArray := by rw [stage, if_neg (by rw [k0 2 (by kernel_rfl)]; exact Bool.false_ne_true)] at kM; exact kM
      clear k1 k0 kM
      exact wp_load_mid _ _ rfl g8 0 rfl AV _ (range_blk (hN)) Tryd.underlying23 rfl HAV.out ⟨_, rfl, Fr.refl _ _, rfl, trivial⟩
    · clear hR k1 k0 kM
      refine .inl ⟨by kernel_rfl, ?_⟩
      exact wp_load_mid _ _ rfl g9 0 rfl BV _ (range_blk (E6.out.b11.fr hf (fun e => by have e' : g9 = g8 := e; have := E6.out.l1; have := E6.out.l2; omega))) Tryd.underlying23 rfl HBV.out ⟨_, rfl, Fr.refl _ _, rfl, trivial⟩
    · have h0 : u 0 = _ := hR 0 (by kernel_rfl)
      clear hR
      simp only [h0]
      refine .inl ⟨by kernel_rfl, ?_⟩
      have hN : Blk w' g8 23 AV.toArray := by rw [stage, if_neg (by rw [k0 2 (by kernel_rfl)]; exact Bool.false_ne_true)] at kM; exact kM
      clear k1 k0 kM
      refine wp_storeBlk 23 (.tmp 8) (.tmp 53) rfl g8 AV.toArray rfl rfl _ _ hN DA.out.infoR rfl DA.out.one ?_
      intro w4 b4 f4
      exact ⟨_, rfl, f4, trivial, b4⟩
  · intro u w' hf hR kM
    have h1 : u 1 = _ := hR 1 (by omega)
    clear hR
    have k8 : Blk w' g8 23 AV.toArray := kM
    clear kM
    simp only [List.take_succ_cons, List.take_zero, List.map_cons, List.map_nil, puts, Act.put, List.setIfInBounds_toArray, List.set_cons_zero, List.set_cons_succ, List.drop_succ_cons, List.drop_zero, Nat.zero_add, h1]
    have B9 := Lib.hid (E6.out.b11.fr hf (fun e => by have e' : g9 = g8 := e; have := E6.out.l1; have := E6.out.l2; omega))
    have B8 := Lib.hid k8
    have FF := Lib.hid hf
    clear k8 hf
    go_wp2_with (refine wpList_storeBlk rfl 23 (.tmp 9) _ rfl g9 BV.toArray rfl rfl _ _ B9.out DB.out.infoR rfl DB.out.one ?_)
    intro wz b5 f5
    have J9 := Lib.hid b5
    have J8 := Lib.hid (B8.out.fr f5 (fun e => by have e' : g8 = g9 := e; have := E6.out.l1; have := E6.out.l2; omega))
    have JF : Hid (Fr Nothing w wz) := (E6.out.fr.then_ FF.out (fun i hi e => by have e' : i = g8 := e; have := E6.out.lo; have := E6.out.l1; omega)).then_ f5 (fun i hi e => by have e' : i = g9 := e; have := E6.out.lo; have := E6.out.l1; have := E6.out.l2; omega)
    clear b5 f5
    go_wp2
    exact bodyPost_ret (results_cells_slot (fn := Tryd.f25) (p := 8) (q := 9) (r := 10) (ty := 23) Tryd.results25 _ wz _ _ 23 AV.toArray BV.toArray (0, 0) rfl rfl J8.out J9.out Tryd.underlying23 rfl DA.out.infoR DB.out.infoR _ rfl) rfl ⟨rfl, JF.out⟩
end Go.Proofs.YtkaghbpdnmigmaaDoor
