/- The reference's extends (written by genT.py). -/
import Derived.Test.YtkaghbpdnmigmaaDoorLtS
import Derived.Test.YtkaghbpdnmigmaaDoorGwB
namespace Go.Proofs.YtkaghbpdnmigmaaDoor
open Go.RowKit

theorem wp_allocBlk {P : Program} {op : Oper} {a : Act} {w : World} {K : Act → World → Prop} {Q : Exit → Act → World → Prop} (t : TypeId) (ho : op.op = .alloc t) (z : Value) (hz : ∀ w, (zeroValue t).run P w = .ok z w) (cells : Array Value) (hc : z.cells = cells)
    (h : ∀ w', NewBlk w w' t cells → K (a.put op.dst (.pointer (some ⟨w.heap.size, 0, none⟩))) w') : op.wp P a w K Q := by
  subst hc
  unfold Oper.wp execOp
  simp only [ho, Instr.alloc, Sem.run_bind, hz, newVar, newRow, run_newObj_alloc, Sem.run_pure, Result.andThen_ok]
  exact h _ (NewBlk.alloc w t z.cells)

theorem Ext3.keep {w w3 w4 : World} {ty : TypeId} {OV X Y : Array Value} {g5 g10 g11 g : Nat} (h : Ext3 w w3 ty OV X Y g5 g10 g11) (hf : Fr (fun k => k = g) w3 w4) (hg : g11 < g) : Ext3 w w4 ty OV X Y g5 g10 g11 := by
  have := h.l1
  have := h.l2
  have := h.lo
  exact ⟨h.fr.then_ hf (fun i hi e => by have e' : i = g := e; omega), h.b5.fr hf (fun e => by have e' : g5 = g := e; omega), h.b10.fr hf (fun e => by have e' : g10 = g := e; omega), h.b11.fr hf (fun e => by have e' : g11 = g := e; omega), h.lo, h.l1, h.l2⟩
theorem Ext3.later {w w3 w4 : World} {ty : TypeId} {OV X Y : Array Value} {g5 g10 g11 : Nat} (h : Ext3 w w3 ty OV X Y g5 g10 g11) (hf : Fr Nothing w3 w4) : Ext3 w w4 ty OV X Y g5 g10 g11 :=
  ⟨h.fr.trans hf, h.b5.fr hf (fun x => x), h.b10.fr hf (fun x => x), h.b11.fr hf (fun x => x), h.lo, h.l1, h.l2⟩

def ExtR (n : Nat) : Prop := ∀ (old : List UInt8) (m : Nat) (whole : Bool) (path : List (List UInt8)) (p : Nat) (A : Option Addr) (c : Nat) (S : Nat → Prop) (w : World), DigL w S A p path → old.length = 32 → 1 ≤ m → m ≤ n → n ≤ 1048576 → p = extLen m n whole → p ≤ c → c ≤ 9223372036854775807 →
  Calls Tryd.prog 56 #[digV old, .int .i64 m, .int .i64 n, .bool whole, .slice A p c] w (Same' w (.tuple #[digV (extD old m n whole path).1, digV (extD old m n whole path).2]))

set_option maxRecDepth 100000 in
set_option maxHeartbeats 1000000 in
theorem extends_whole (old : List UInt8) (ho : old.length = 32) (m : Nat) (v : Value) (w : World) : Calls Tryd.prog 56 #[digV old, .int .i64 m, .int .i64 m, .bool true, v] w (Same' w (.tuple #[digV old, digV old])) := by
  have DO : Hid (Dig (digC old).toArray) := Dig.of ho
  have HOV : Hid ((Tryd.prog.info? 23).map (·.size) = some (digC old).length) := by rw [digC, List.length_map, ho]; exact info32
  unfold digV at *
  change Calls _ _ #[.agg (digC old).toArray, _, _, _, _] _ (Same' w (.tuple #[.agg (digC old).toArray, .agg (digC old).toArray]))
  generalize digC old = OV at *
  go_enter Tryd.func56, Tryd.ntmps56
  go_wp2_with (refine wpList_boxBlk rfl 23 (.tmp 0) rfl _ rfl ?_)
  intro w1 n1
  have N1 := Lib.hid n1
  clear n1
  go_wp2_with (refine wpList_allocBlk rfl 23 rfl zero32 zv32 zero32c rfl ?_)
  intro w2 n2
  have N2 := Lib.hid n2
  clear n2
  go_wp2_with (refine wpList_allocBlk rfl 23 rfl zero32 zv32 zero32c rfl ?_)
  intro w3 n3
  have E3 := Lib.hid (Ext3.of N1.out N2.out n3)
  clear n3 N1 N2
  generalize w.heap.size = g5 at *
  generalize w1.heap.size = g10 at *
  generalize w2.heap.size = g11 at *
  go_upto_region 3 with fail
  refine wp_region_st 3 (fun k => k = g10) [Is (.agg OV.toArray), Is (.agg OV.toArray), fun _ _ => True] [(2, fun w' => Blk w' g10 23 OV.toArray)] (fun w' => Blk w' g10 23 zero32c) (fun _ _ => false) (by kernel_rfl) (by kernel_rfl) (by kernel_rfl) (by kernel_rfl) ⟨Is.stable _, Is.stable _, fun _ _ _ _ _ h => h, trivial⟩ ⟨fun _ _ _ hf h => h.fr hf (fun x => x), trivial⟩ (fun _ _ _ hf h => h.fr hf (fun x => x)) E3.out.b10 ?_ ?_
  · refine ⟨fun u w' d hf hR k1 k0 kM => ?_, fun u w' d hf hR k1 k0 kM => ?_, fun u w' d hf hR k1 k0 kM => ?_, trivial⟩
    all_goals simp only [List.take_succ_cons, List.take_zero, List.map_cons, List.map_nil, puts, Act.put, List.setIfInBounds_toArray, List.set_cons_zero, List.set_cons_succ, Nat.reduceAdd, Nat.zero_add]
    · clear hR k1 k0 kM
      refine .inl ⟨by kernel_rfl, ?_⟩
      exact wp_load_mid _ _ rfl g5 0 rfl OV _ (range_blk (E3.out.b5.fr hf (fun e => by have e' : g5 = g10 := e; have := E3.out.l1; have := E3.out.l2; omega))) Tryd.underlying23 rfl HOV.out ⟨_, rfl, Fr.refl _ _, rfl, trivial⟩
    · clear hR k1 k0 kM
      refine .inl ⟨by kernel_rfl, ?_⟩
      exact wp_load_mid _ _ rfl g5 0 rfl OV _ (range_blk (E3.out.b5.fr hf (fun e => by have e' : g5 = g10 := e; have := E3.out.l1; have := E3.out.l2; omega))) Tryd.underlying23 rfl HOV.out ⟨_, rfl, Fr.refl _ _, rfl, trivial⟩
    · have h0 : u 0 = _ := hR 0 (by kernel_rfl)
      clear hR
      simp only [h0]
      refine .inl ⟨by kernel_rfl, ?_⟩
      have hN : Blk w' g10 23 zero32c := by rw [stage, if_neg (by rw [k0 2 (by kernel_rfl)]; exact Bool.false_ne_true)] at kM; exact kM
      clear k1 k0 kM
      refine wp_storeBlk 23 (.tmp 10) (.tmp 22) rfl g10 OV.toArray rfl rfl _ _ hN DO.out.infoR DO.out.zero DO.out.one ?_
      intro w4 b4 f4
      exact ⟨_, rfl, f4, trivial, b4⟩
  · intro u w' hf hR kM
    have h1 : u 1 = _ := hR 1 (by omega)
    clear hR
    have k10 : Blk w' g10 23 OV.toArray := kM
    clear kM
    simp only [List.take_succ_cons, List.take_zero, List.map_cons, List.map_nil, puts, Act.put, List.setIfInBounds_toArray, List.set_cons_zero, List.set_cons_succ, List.drop_succ_cons, List.drop_zero, Nat.zero_add, h1]
    have B11 := Lib.hid (E3.out.b11.fr hf (fun e => by have e' : g11 = g10 := e; have := E3.out.l1; have := E3.out.l2; omega))
    have B10 := Lib.hid k10
    have FF := Lib.hid hf
    clear k10 hf
    go_wp2_with (refine wpList_storeBlk rfl 23 (.tmp 11) _ rfl g11 OV.toArray rfl rfl _ _ B11.out DO.out.infoR DO.out.zero DO.out.one ?_)
    intro wz b5 f5
    have J11 := Lib.hid b5
    have J10 := Lib.hid (B10.out.fr f5 (fun e => by have e' : g10 = g11 := e; have := E3.out.l1; have := E3.out.l2; omega))
    have JF : Hid (Fr Nothing w wz) := (E3.out.fr.then_ FF.out (fun i hi e => by have e' : i = g10 := e; have := E3.out.lo; have := E3.out.l1; omega)).then_ f5 (fun i hi e => by have e' : i = g11 := e; have := E3.out.lo; have := E3.out.l1; have := E3.out.l2; omega)
    clear b5 f5
    go_wp2
    exact bodyPost_ret (results_cell_cell (fn := Tryd.f56) (p := 10) (q := 11) (ty := 23) Tryd.results56 _ wz _ _ 23 OV.toArray OV.toArray (0, 0) rfl rfl J10.out J11.out Tryd.underlying23 rfl DO.out.infoR DO.out.infoR) rfl ⟨rfl, JF.out⟩

set_option maxRecDepth 100000 in
set_option maxHeartbeats 1000000 in
theorem extends_part (old : List UInt8) (m : Nat) (path : List (List UInt8)) (A : Option Addr) (c : Nat) (S : Nat → Prop) (w : World) (hD : DigL w S A 1 path) : Calls Tryd.prog 56 #[digV old, .int .i64 m, .int .i64 m, .bool false, .slice A 1 c] w (Same' w (.tuple #[digV (path.headD []), digV (path.headD [])])) := by
  obtain ⟨ad, d, rfl, _, hd, hd32, hcell⟩ := hD.at_ (k := 0) (by omega)
  have he : path.headD [] = d := by
    match path, hD.len, hd with
    | [x], _, hd => cases hd; rfl
    | [], hl, _ => simp at hl
    | _ :: _ :: _, hl, _ => simp at hl
  rw [he]
  rw [Nat.zero_mul, show ad.add 0 = ad from rfl] at hcell
  have HC : Hid (∀ w', Fr Nothing w w' → ∀ j v, (digC d)[j]? = some v → w'.cell? (ad.add j) = some v) := fun w' hf j v hv => hf.cellSome (hcell j v hv) (fun x => x)
  have DP : Hid (Dig (digC d).toArray) := Dig.of hd32
  have HPV : Hid ((Tryd.prog.info? 23).map (·.size) = some (digC d).length) := by rw [digC, List.length_map, hd32]; exact info32
  clear hcell hd hd32 he hD
  unfold digV at *
  change Calls _ _ #[.agg (digC old).toArray, _, _, _, _] _ (Same' w (.tuple #[.agg (digC d).toArray, .agg (digC d).toArray]))
  generalize digC old = OV at *
  generalize digC d = PV at *
  go_enter Tryd.func56, Tryd.ntmps56
  go_wp2_with (refine wpList_boxBlk rfl 23 (.tmp 0) rfl _ rfl ?_)
  intro w1 n1
  have N1 := Lib.hid n1
  clear n1
  go_wp2_with (refine wpList_allocBlk rfl 23 rfl zero32 zv32 zero32c rfl ?_)
  intro w2 n2
  have N2 := Lib.hid n2
  clear n2
  go_wp2_with (refine wpList_allocBlk rfl 23 rfl zero32 zv32 zero32c rfl ?_)
  intro w3 n3
  have E3 := Lib.hid (Ext3.of N1.out N2.out n3)
  clear n3 N1 N2
  generalize w.heap.size = g5 at *
  generalize w1.heap.size = g10 at *
  generalize w2.heap.size = g11 at *
  go_upto_region 4 with fail
  refine wp_region_st 7 (fun k => k = g10) [Is (.slice (some ad) 1 c), Is (.pointer (some ad)), Is (.agg PV.toArray), Is (.slice (some ad) 1 c), Is (.pointer (some ad)), Is (.agg PV.toArray), fun _ _ => True] [(6, fun w' => Blk w' g10 23 PV.toArray)] (fun w' => Blk w' g10 23 zero32c) (fun _ _ => false) (by kernel_rfl) (by kernel_rfl) (by kernel_rfl) (by kernel_rfl) ⟨Is.stable _, Is.stable _, Is.stable _, Is.stable _, Is.stable _, Is.stable _, fun _ _ _ _ _ h => h, trivial⟩ ⟨fun _ _ _ hf h => h.fr hf (fun x => x), trivial⟩ (fun _ _ _ hf h => h.fr hf (fun x => x)) E3.out.b10 ?_ ?_
  · refine ⟨fun u w' d hf hR k1 k0 kM => ?_, fun u w' d hf hR k1 k0 kM => ?_, fun u w' d hf hR k1 k0 kM => ?_, fun u w' d hf hR k1 k0 kM => ?_, fun u w' d hf hR k1 k0 kM => ?_, fun u w' d hf hR k1 k0 kM => ?_, fun u w' d hf hR k1 k0 kM => ?_, trivial⟩
    all_goals simp only [List.take_succ_cons, List.take_zero, List.map_cons, List.map_nil, puts, Act.put, List.setIfInBounds_toArray, List.set_cons_zero, List.set_cons_succ, Nat.reduceAdd, Nat.zero_add]
    · clear hR k1 k0 kM
      refine .inl ⟨by kernel_rfl, ?_⟩
      go_simp
      exact ⟨_, rfl, Fr.refl _ _, rfl, trivial⟩
    · have h0 : u 0 = _ := hR 0 (by kernel_rfl)
      clear hR k1 k0 kM
      simp only [h0]
      refine .inl ⟨by kernel_rfl, ?_⟩
      go_simp
      exact ⟨_, rfl, Fr.refl _ _, rfl, trivial⟩
    · have h1 : u 1 = _ := hR 1 (by kernel_rfl)
      clear hR k1 k0 kM
      simp only [h1]
      refine .inl ⟨by kernel_rfl, ?_⟩
      exact wp_load_add _ _ rfl ad rfl PV _ (HC.out _ (E3.out.fr.then_ hf (fun i hi e => by have e' : i = g10 := e; have := E3.out.lo; have := E3.out.l1; omega))) Tryd.underlying23 rfl HPV.out ⟨_, rfl, Fr.refl _ _, rfl, trivial⟩
    · clear hR k1 k0 kM
      refine .inl ⟨by kernel_rfl, ?_⟩
      go_simp
      exact ⟨_, rfl, Fr.refl _ _, rfl, trivial⟩
    · have h3 : u 3 = _ := hR 3 (by kernel_rfl)
      clear hR k1 k0 kM
      simp only [h3]
      refine .inl ⟨by kernel_rfl, ?_⟩
      go_simp
      exact ⟨_, rfl, Fr.refl _ _, rfl, trivial⟩
    · have h4 : u 4 = _ := hR 4 (by kernel_rfl)
      clear hR k1 k0 kM
      simp only [h4]
      refine .inl ⟨by kernel_rfl, ?_⟩
      exact wp_load_add _ _ rfl ad rfl PV _ (HC.out _ (E3.out.fr.then_ hf (fun i hi e => by have e' : i = g10 := e; have := E3.out.lo; have := E3.out.l1; omega))) Tryd.underlying23 rfl HPV.out ⟨_, rfl, Fr.refl _ _, rfl, trivial⟩
    · have h2 : u 2 = _ := hR 2 (by kernel_rfl)
      clear hR
      simp only [h2]
      refine .inl ⟨by kernel_rfl, ?_⟩
      have hN : Blk w' g10 23 zero32c := by rw [stage, if_neg (by rw [k0 6 (by kernel_rfl)]; exact Bool.false_ne_true)] at kM; exact kM
      clear k1 k0 kM
      refine wp_storeBlk 23 (.tmp 10) (.tmp 26) rfl g10 PV.toArray rfl rfl _ _ hN DP.out.infoR DP.out.zero DP.out.one ?_
      intro w4 b4 f4
      exact ⟨_, rfl, f4, trivial, b4⟩
  · intro u w' hf hR kM
    have h5 : u 5 = _ := hR 5 (by omega)
    clear hR
    have k10 : Blk w' g10 23 PV.toArray := kM
    clear kM
    simp only [List.take_succ_cons, List.take_zero, List.map_cons, List.map_nil, puts, Act.put, List.setIfInBounds_toArray, List.set_cons_zero, List.set_cons_succ, List.drop_succ_cons, List.drop_zero, Nat.reduceAdd, Nat.zero_add, h5]
    have B11 := Lib.hid (E3.out.b11.fr hf (fun e => by have e' : g11 = g10 := e; have := E3.out.l1; have := E3.out.l2; omega))
    have B10 := Lib.hid k10
    have FF := Lib.hid hf
    clear k10 hf
    go_wp2_with (refine wpList_storeBlk rfl 23 (.tmp 11) _ rfl g11 PV.toArray rfl rfl _ _ B11.out DP.out.infoR DP.out.zero DP.out.one ?_)
    intro wz b5 f5
    have J11 := Lib.hid b5
    have J10 := Lib.hid (B10.out.fr f5 (fun e => by have e' : g10 = g11 := e; have := E3.out.l1; have := E3.out.l2; omega))
    have JF : Hid (Fr Nothing w wz) := (E3.out.fr.then_ FF.out (fun i hi e => by have e' : i = g10 := e; have := E3.out.lo; have := E3.out.l1; omega)).then_ f5 (fun i hi e => by have e' : i = g11 := e; have := E3.out.lo; have := E3.out.l1; have := E3.out.l2; omega)
    clear b5 f5
    go_wp2
    exact bodyPost_ret (results_cell_cell (fn := Tryd.f56) (p := 10) (q := 11) (ty := 23) Tryd.results56 _ wz _ _ 23 PV.toArray PV.toArray (0, 0) rfl rfl J10.out J11.out Tryd.underlying23 rfl DP.out.infoR DP.out.infoR) rfl ⟨rfl, JF.out⟩

set_option maxRecDepth 100000 in
set_option maxHeartbeats 2000000 in
theorem extends_left (n : Nat) (ih : ∀ m, m < n → ExtR m) (old : List UInt8) (m : Nat) (whole : Bool) (path : List (List UInt8)) (p1 : Nat) (A : Option Addr) (c : Nat) (S : Nat → Prop) (w : World) (hD : DigL w S A p1 path) (ho : old.length = 32) (h1 : 1 ≤ m) (hmn : m ≤ n) (hn : n ≤ 1048576)
    (hp : p1 = extLen m n whole) (hc : p1 ≤ c) (hcap : c ≤ 9223372036854775807) (e : m ≠ n) (hm : m ≤ leftN n) :
    Calls Tryd.prog 56 #[digV old, .int .i64 m, .int .i64 n, .bool whole, .slice A p1 c] w (Same' w (.tuple #[digV (extD old m n whole path).1, digV (extD old m n whole path).2])) := by
  obtain ⟨ka, _, kc⟩ := leftN_bounds n (by omega) (by omega)
  have CS := Lib.hid (fun w => Left_any n w (by omega) (by omega))
  have hE := extLen_left whole e (by omega) (by omega) hm
  have hle := extLen_le n m whole h1 hmn (by omega)
  obtain ⟨p, hpp⟩ : ∃ p, p = extLen m (leftN n) whole := ⟨_, rfl⟩
  rw [← hpp] at hE
  have hl : path.length = p + 1 := by rw [hD.len, hp, hE]
  have hX := extD_left old whole path hl e (by omega) (by omega) hm
  obtain ⟨ad, last, rfl, _, hd, hd32, hcell⟩ := hD.at_ (k := p) (by omega)
  have hlast : path.getD p [] = last := by rw [List.getD_eq_getElem?_getD, hd]; rfl
  rw [hlast] at hX
  obtain ⟨l1, l2⟩ := extD_length (leftN n) old m whole (path.take p) (by omega) (by omega) (by omega) ho (by rw [List.length_take, hl, ← hpp]; omega) (fun d hd => hD.each d (List.mem_of_mem_take hd))
  have CI : Hid (∀ w', Fr Nothing w w' → Calls Tryd.prog 56 #[digV old, .int .i64 (m : Nat), .int .i64 ((leftN n) : Nat), .bool whole, .slice (some ad) p c] w' (Same' w' (.tuple #[digV (extD old m (leftN n) whole (path.take p)).1, digV (extD old m (leftN n) whole (path.take p)).2]))) :=
    fun w' hf => ih _ (by omega) old _ _ (path.take p) p (some ad) c S w' ((hD.take (by omega)).fr0 hf) ho (by omega) (by omega) (by omega) hpp (by omega) hcap
  have HC : Hid (∀ w', Fr Nothing w w' → ∀ j v, (digC last)[j]? = some v → w'.cell? ((ad.add (p * 32)).add j) = some v) := fun w' hf j v hv => hf.cellSome (hcell j v hv) (fun x => x)
  generalize extD old m (leftN n) whole (path.take p) = r at *
  have CN : Hid (∀ w', Fr Nothing w w' → Calls Tryd.prog 18 #[digV r.2, digV last] w' (Same' w' (digV (nodeD r.2 last)))) := fun w' hf => rNode_any _ _ l2 hd32 w'
  rw [hX]
  have ln := nodeD_length r.2 last
  show Calls _ _ _ _ (Same' w (.tuple #[digV r.1, digV (nodeD r.2 last)]))
  generalize nodeD r.2 last = nn at *
  generalize r.1 = ra at *
  generalize r.2 = rb at *
  have DA : Hid (Dig (digC ra).toArray) := Dig.of l1
  have DB : Hid (Dig (digC rb).toArray) := Dig.of l2
  have DN : Hid (Dig (digC nn).toArray) := Dig.of ln
  have HOV : Hid ((Tryd.prog.info? 23).map (·.size) = some (digC old).length) := by rw [digC, List.length_map, ho]; exact info32
  have HAV : Hid ((Tryd.prog.info? 23).map (·.size) = some (digC ra).length) := by rw [digC, List.length_map, l1]; exact info32
  have HBV : Hid ((Tryd.prog.info? 23).map (·.size) = some (digC rb).length) := by rw [digC, List.length_map, l2]; exact info32
  have HLV : Hid ((Tryd.prog.info? 23).map (·.size) = some (digC last).length) := by rw [digC, List.length_map, hd32]; exact info32
  have DL : Hid (Dig (digC last).toArray) := Dig.of hd32
  have AVs : Hid ((digC ra).toArray.size = 32) := DA.out.size
  have BVs : Hid ((digC rb).toArray.size = 32) := DB.out.size
  generalize leftN n = k at *
  have t1 : ((m : Int) == (n : Int)) = false := by rw [beq_eq_false_iff_ne]; omega
  have t2 : decide ((m : Int) ≤ (k : Int)) = true := decide_eq_true (by omega)
  have hp1 : p1 = p + 1 := by omega
  have s1 : (p1 : Int) - 1 = (p : Int) := by omega
  have b1 : (p : Int) ≤ (c : Int) := by omega
  have b2 : (p : Int) < (p1 : Int) := by omega
  have b3 : p < p1 := by omega
  have hp64 : p1 ≤ 1048576 := by omega
  have e3 : IntKind.i64.wrap (p : Int) = (p : Int) := IntWalk.i64_in _ (by omega)
  clear hD hE hle hpp hl hX hlast hd hd32 hcell ih l1 l2 ln ho hp hp1
  unfold digV at *
  simp only [show ∀ l : List UInt8, l.map bvI = digC l from fun _ => rfl] at *
  generalize digC old = OV at *
  generalize digC ra = AV at *
  generalize digC rb = BV at *
  generalize digC last = LV at *
  generalize digC nn = NV at *
  go_enter Tryd.func56, Tryd.ntmps56
  go_wp2_with (refine wpList_boxBlk rfl 23 (.tmp 0) rfl _ rfl ?_)
  intro w1 n1
  have N1 := Lib.hid n1
  clear n1
  go_wp2_with (refine wpList_allocBlk rfl 23 rfl zero32 zv32 zero32c rfl ?_)
  intro w2 n2
  have N2 := Lib.hid n2
  clear n2
  go_wp2_with (refine wpList_allocBlk rfl 23 rfl zero32 zv32 zero32c rfl ?_)
  intro w3 n3
  have E3 := Lib.hid (Ext3.of N1.out N2.out n3)
  clear n3 N1 N2
  generalize w.heap.size = g5 at *
  generalize w1.heap.size = g10 at *
  generalize w2.heap.size = g11 at *
  go_upto_region 5 with fail
  refine wp_region_new 10 23 [fun v => v = .int .i64 n, fun v => v = .int .i64 k, fun v => v = .slice (some ad) p1 c, fun v => v = .slice (some ad) p1 c, fun v => v = .int .i64 p1, fun v => v = .int .i64 p, fun v => v = .pointer (some (ad.add (p * 32))), fun v => v = .agg LV.toArray, fun _ => True, fun v => v = .int .i64 k] [] [(8, zero32c)] [] (by kernel_rfl) (by kernel_rfl) (by kernel_rfl) trivial ?_ ?_
  · refine ⟨fun u w' hf hR hW => ?_, fun u w' hf hR hW => ?_, fun u w' hf hR hW => ?_, fun u w' hf hR hW => ?_, fun u w' hf hR hW => ?_, fun u w' hf hR hW => ?_, fun u w' hf hR hW => ?_, fun u w' hf hR hW => ?_, fun u w' hf hR => ?_, fun u w' hf hR hW => ?_, trivial⟩
    all_goals simp only [List.take_succ_cons, List.take_zero, List.map_cons, List.map_nil, puts, Act.put, List.setIfInBounds_toArray, List.set_cons_zero, List.set_cons_succ, Nat.reduceAdd, Nat.zero_add]
    · clear hR hW
      refine .inl ⟨by kernel_rfl, ?_⟩
      go_simp
      exact ⟨_, rfl, rfl, trivial, Fr.refl _ _⟩
    · have h0 : u 0 = _ := hR 0 (by kernel_rfl)
      clear hR hW
      simp only [h0]
      refine .inl ⟨by kernel_rfl, ?_⟩
      go_simp
      refine (CS.out _).mono ?_
      rintro e w4 ⟨rfl, rfl⟩
      exact ⟨_, rfl, rfl, trivial, Fr.refl _ _⟩
    · clear hR hW
      refine .inl ⟨by kernel_rfl, ?_⟩
      go_simp
      exact ⟨_, rfl, rfl, trivial, Fr.refl _ _⟩
    · clear hR hW
      refine .inl ⟨by kernel_rfl, ?_⟩
      go_simp
      exact ⟨_, rfl, rfl, trivial, Fr.refl _ _⟩
    · have h3 : u 3 = _ := hR 3 (by kernel_rfl)
      clear hR hW
      simp only [h3]
      refine .inl ⟨by kernel_rfl, ?_⟩
      go_simp
      exact ⟨_, rfl, rfl, trivial, Fr.refl _ _⟩
    · have h4 : u 4 = _ := hR 4 (by kernel_rfl)
      clear hR hW
      simp only [h4]
      refine .inl ⟨by kernel_rfl, ?_⟩
      go_simp
      exact ⟨_, rfl, rfl, trivial, Fr.refl _ _⟩
    · have h2 : u 2 = _ := hR 2 (by kernel_rfl)
      have h5 : u 5 = _ := hR 5 (by kernel_rfl)
      clear hR hW
      simp only [h2, h5]
      refine .inl ⟨by kernel_rfl, ?_⟩
      go_simp
      exact ⟨_, rfl, rfl, trivial, Fr.refl _ _⟩
    · have h6 : u 6 = _ := hR 6 (by kernel_rfl)
      clear hR hW
      simp only [h6]
      refine .inl ⟨by kernel_rfl, ?_⟩
      exact wp_load_add _ _ rfl (ad.add (p * 32)) rfl LV _ (HC.out _ (E3.out.fr.trans hf)) Tryd.underlying23 rfl HLV.out ⟨_, rfl, rfl, trivial, Fr.refl _ _⟩
    · clear hR
      refine .inl ⟨by kernel_rfl, ?_⟩
      refine wp_allocBlk 23 rfl zero32 zv32 zero32c rfl ?_
      intro w4 n4
      exact ⟨_, rfl, trivial, trivial, rfl, n4⟩
    · have h1 : u 1 = _ := hR 1 (by kernel_rfl)
      clear hR hW
      simp only [h1]
      refine .inl ⟨by kernel_rfl, ?_⟩
      go_simp
      exact ⟨_, rfl, rfl, trivial, Fr.refl _ _⟩
  · intro u w' hf hR hN hA
    have h7 : u 7 = _ := hR 7 (by omega)
    have h9 : u 9 = _ := hR 9 (by omega)
    obtain ⟨g13, h8, l13, b13⟩ := hN 8 zero32c (by simp)
    have b13' : Blk w' g13 23 zero32c := b13
    have n13 : Hid (g11 < g13) := Nat.lt_of_lt_of_le E3.out.b11.lt l13
    have E4 := Lib.hid (E3.out.later hf)
    have L4 := Lib.hid b13'
    clear hR hN hA hf b13 b13' E3 l13
    simp only [List.take_succ_cons, List.take_zero, List.map_cons, List.map_nil, puts, Act.put, List.setIfInBounds_toArray, List.set_cons_zero, List.set_cons_succ, List.drop_succ_cons, List.drop_zero, Nat.reduceAdd, Nat.zero_add, h7, h8, h9]
    go_wp2_with (refine wpList_storeBlk rfl 23 (.tmp 13) _ rfl g13 LV.toArray rfl rfl _ _ L4.out DL.out.infoR DL.out.zero DL.out.one ?_)
    intro w5 b5 f5
    have E5 := Lib.hid (E4.out.keep f5 n13.out)
    have L5 := Lib.hid b5
    clear b5 f5 E4 L4 HC CS
    go_upto_region 7 with fail
    refine wp_region_new 16 23 [fun v => v = .agg OV.toArray, fun v => v = .int .i64 m, fun v => v = .int .i64 k, fun v => v = .bool whole, fun v => v = .slice (some ad) p1 c, fun v => v = .slice (some ad) p1 c, fun v => v = .int .i64 p1, fun v => v = .int .i64 p, fun v => v = .slice (some ad) p c, fun v => v = .tuple #[.agg AV.toArray, .agg BV.toArray], fun v => v = .tuple #[.agg AV.toArray, .agg BV.toArray], fun v => v = .agg AV.toArray, fun v => v = .agg BV.toArray, fun _ => True, fun _ => True, fun _ => True] [] [(13, zero32c), (14, zero32c)] [(15, 13, AV.toArray)] (by kernel_rfl) (by kernel_rfl) (by kernel_rfl) trivial ?_ ?_
    · refine ⟨fun u w' hf hR hW => ?_, fun u w' hf hR hW => ?_, fun u w' hf hR hW => ?_, fun u w' hf hR hW => ?_, fun u w' hf hR hW => ?_, fun u w' hf hR hW => ?_, fun u w' hf hR hW => ?_, fun u w' hf hR hW => ?_, fun u w' hf hR hW => ?_, fun u w' hf hR hW => ?_, fun u w' hf hR hW => ?_, fun u w' hf hR hW => ?_, fun u w' hf hR hW => ?_, fun u w' hf hR => ?_, fun u w' hf hR => ?_, fun u w' g hf hR hg hb => ?_, trivial⟩
      all_goals simp only [List.take_succ_cons, List.take_zero, List.map_cons, List.map_nil, puts, Act.put, List.setIfInBounds_toArray, List.set_cons_zero, List.set_cons_succ, Nat.reduceAdd, Nat.zero_add]
      · clear hR hW
        refine .inl ⟨by kernel_rfl, ?_⟩
        exact wp_load_mid _ _ rfl g5 0 rfl OV _ (range_blk (E5.out.b5.fr hf (fun x => x))) Tryd.underlying23 rfl HOV.out ⟨_, rfl, rfl, trivial, Fr.refl _ _⟩
      · clear hR hW
        refine .inl ⟨by kernel_rfl, ?_⟩
        go_simp
        exact ⟨_, rfl, rfl, trivial, Fr.refl _ _⟩
      · clear hR hW
        refine .inl ⟨by kernel_rfl, ?_⟩
        go_simp
        exact ⟨_, rfl, rfl, trivial, Fr.refl _ _⟩
      · clear hR hW
        refine .inl ⟨by kernel_rfl, ?_⟩
        go_simp
        exact ⟨_, rfl, rfl, trivial, Fr.refl _ _⟩
      · clear hR hW
        refine .inl ⟨by kernel_rfl, ?_⟩
        go_simp
        exact ⟨_, rfl, rfl, trivial, Fr.refl _ _⟩
      · clear hR hW
        refine .inl ⟨by kernel_rfl, ?_⟩
        go_simp
        exact ⟨_, rfl, rfl, trivial, Fr.refl _ _⟩
      · have h5 : u 5 = _ := hR 5 (by kernel_rfl)
        clear hR hW
        simp only [h5]
        refine .inl ⟨by kernel_rfl, ?_⟩
        go_simp
        exact ⟨_, rfl, rfl, trivial, Fr.refl _ _⟩
      · have h6 : u 6 = _ := hR 6 (by kernel_rfl)
        clear hR hW
        simp only [h6]
        refine .inl ⟨by kernel_rfl, ?_⟩
        go_simp
        exact ⟨_, rfl, rfl, trivial, Fr.refl _ _⟩
      · have h4 : u 4 = _ := hR 4 (by kernel_rfl)
        have h7 : u 7 = _ := hR 7 (by kernel_rfl)
        clear hR hW
        simp only [h4, h7]
        refine .inl ⟨by kernel_rfl, ?_⟩
        go_simp
        exact ⟨_, rfl, rfl, trivial, Fr.refl _ _⟩
      · have h0 : u 0 = _ := hR 0 (by kernel_rfl)
        have h1 : u 1 = _ := hR 1 (by kernel_rfl)
        have h2 : u 2 = _ := hR 2 (by kernel_rfl)
        have h3 : u 3 = _ := hR 3 (by kernel_rfl)
        have h8 : u 8 = _ := hR 8 (by kernel_rfl)
        clear hR hW
        simp only [h0, h1, h2, h3, h8]
        refine .inl ⟨by kernel_rfl, ?_⟩
        go_simp
        refine (CI.out _ (E5.out.fr.trans hf)).mono ?_
        rintro e w4 ⟨rfl, f4⟩
        exact ⟨_, rfl, rfl, trivial, f4⟩
      · have h9 : u 9 = _ := hR 9 (by kernel_rfl)
        clear hR hW
        simp only [h9]
        refine .inl ⟨by kernel_rfl, ?_⟩
        go_simp
        exact ⟨_, rfl, rfl, trivial, Fr.refl _ _⟩
      · have h10 : u 10 = _ := hR 10 (by kernel_rfl)
        clear hR hW
        simp only [h10]
        refine .inl ⟨by kernel_rfl, ?_⟩
        go_simp
        exact ⟨_, rfl, rfl, trivial, Fr.refl _ _⟩
      · have h10 : u 10 = _ := hR 10 (by kernel_rfl)
        clear hR hW
        simp only [h10]
        refine .inl ⟨by kernel_rfl, ?_⟩
        go_simp
        exact ⟨_, rfl, rfl, trivial, Fr.refl _ _⟩
      · clear hR
        refine .inl ⟨by kernel_rfl, ?_⟩
        refine wp_allocBlk 23 rfl zero32 zv32 zero32c rfl ?_
        intro w4 n4
        exact ⟨_, rfl, trivial, trivial, rfl, n4⟩
      · clear hR
        refine .inl ⟨by kernel_rfl, ?_⟩
        refine wp_allocBlk 23 rfl zero32 zv32 zero32c rfl ?_
        intro w4 n4
        exact ⟨_, rfl, trivial, trivial, rfl, n4⟩
      · have h11 : u 11 = _ := hR 11 (by kernel_rfl)
        clear hR
        simp only [h11, hg]
        refine .inl ⟨by kernel_rfl, ?_⟩
        obtain ⟨cs, hm, hb⟩ := hb
        obtain rfl : cs = zero32c := by simpa using hm
        refine wp_storeBlk 23 (.tmp 14) (.tmp 52) rfl g AV.toArray rfl rfl _ _ hb DA.out.infoR DA.out.zero DA.out.one ?_
        intro w4 b4 f4
        exact ⟨_, rfl, trivial, b4, f4⟩
    · intro u w' hf hR hN hA
      have hv : u 12 = _ := hR 12 (by omega)
      obtain ⟨g14, h13, l14, b14⟩ := hN 13 zero32c (by simp)
      obtain ⟨g15, h14, l15, b15⟩ := hN 14 zero32c (by simp)
      have hne : Hid (g14 ≠ g15) := by
        intro e
        exact hA 13 zero32c 14 zero32c (by simp) (by simp) (by omega) (by rw [h13, h14, e])
      have A6 : Hid (Blk w' g14 23 AV.toArray) := b14
      have B6 : Hid (Blk w' g15 23 zero32c) := b15
      have z6 : Hid (g11 < g14 ∧ g11 < g15 ∧ g13 < g15 ∧ g13 < g14) := ⟨Nat.lt_of_lt_of_le E5.out.b11.lt l14, Nat.lt_of_lt_of_le E5.out.b11.lt l15, Nat.lt_of_lt_of_le L5.out.lt l15, Nat.lt_of_lt_of_le L5.out.lt l14⟩
      have E6 := Lib.hid (E5.out.later hf)
      have L6 := Lib.hid (L5.out.fr hf (fun x => x))
      clear hR hN hA hf b14 b15 l14 l15 E5 L5 CI
      simp only [List.take_succ_cons, List.take_zero, List.map_cons, List.map_nil, puts, Act.put, List.setIfInBounds_toArray, List.set_cons_zero, List.set_cons_succ, List.drop_succ_cons, List.drop_zero, Nat.reduceAdd, Nat.zero_add, hv, h13, h14]
      go_wp2_with (refine wpList_storeBlk rfl 23 (.tmp 15) _ rfl g15 BV.toArray rfl rfl _ _ B6.out DB.out.infoR DB.out.zero DB.out.one ?_)
      intro w7 b7 f7
      have B7 := Lib.hid b7
      have A7 := Lib.hid (A6.out.fr f7 hne.out)
      have E7 := Lib.hid (E6.out.keep f7 z6.out.2.1)
      have L7 := Lib.hid (L6.out.fr f7 (fun e => by have e' : g13 = g15 := e; have := z6.out; omega))
      clear b7 f7 E6 L6 A6 B6 hne
      go_upto_region 8 with fail
      refine wp_region_st 5 (fun k => k = g10) [Is (.agg AV.toArray), Is (.agg BV.toArray), Is (.agg LV.toArray), Is (.agg NV.toArray), fun _ _ => True] [(4, fun w' => Blk w' g10 23 AV.toArray)] (fun w' => Blk w' g10 23 zero32c) (fun _ _ => false) (by kernel_rfl) (by kernel_rfl) (by kernel_rfl) (by kernel_rfl) ⟨Is.stable _, Is.stable _, Is.stable _, Is.stable _, fun _ _ _ _ _ h => h, trivial⟩ ⟨fun _ _ _ hf h => h.fr hf (fun x => x), trivial⟩ (fun _ _ _ hf h => h.fr hf (fun x => x)) E7.out.b10 ?_ ?_
      · refine ⟨fun u w' d hf hR k1 k0 kM => ?_, fun u w' d hf hR k1 k0 kM => ?_, fun u w' d hf hR k1 k0 kM => ?_, fun u w' d hf hR k1 k0 kM => ?_, fun u w' d hf hR k1 k0 kM => ?_, trivial⟩
        all_goals simp only [List.take_succ_cons, List.take_zero, List.map_cons, List.map_nil, puts, Act.put, List.setIfInBounds_toArray, List.set_cons_zero, List.set_cons_succ, Nat.reduceAdd, Nat.zero_add]
        · clear hR k1 k0 kM
          refine .inl ⟨by kernel_rfl, ?_⟩
          exact wp_load_mid _ _ rfl g14 0 rfl AV _ (range_blk (A7.out.fr hf (fun e => by have e' : g14 = g10 := e; have := z6.out; have := n13.out; have := E7.out.l1; have := E7.out.l2; omega))) Tryd.underlying23 rfl HAV.out ⟨_, rfl, Fr.refl _ _, rfl, trivial⟩
        · clear hR k1 k0 kM
          refine .inl ⟨by kernel_rfl, ?_⟩
          exact wp_load_mid _ _ rfl g15 0 rfl BV _ (range_blk (B7.out.fr hf (fun e => by have e' : g15 = g10 := e; have := z6.out; have := n13.out; have := E7.out.l1; have := E7.out.l2; omega))) Tryd.underlying23 rfl HBV.out ⟨_, rfl, Fr.refl _ _, rfl, trivial⟩
        · clear hR k1 k0 kM
          refine .inl ⟨by kernel_rfl, ?_⟩
          exact wp_load_mid _ _ rfl g13 0 rfl LV _ (range_blk (L7.out.fr hf (fun e => by have e' : g13 = g10 := e; have := z6.out; have := n13.out; have := E7.out.l1; have := E7.out.l2; omega))) Tryd.underlying23 rfl HLV.out ⟨_, rfl, Fr.refl _ _, rfl, trivial⟩
        · have h1 : u 1 = _ := hR 1 (by kernel_rfl)
          have h2 : u 2 = _ := hR 2 (by kernel_rfl)
          clear hR k1 k0 kM
          simp only [h1, h2]
          refine .inl ⟨by kernel_rfl, ?_⟩
          go_simp
          refine (CN.out _ (E7.out.fr.then_ hf (fun i hi e => by have e' : i = g10 := e; have := E7.out.lo; have := E7.out.l1; omega))).mono ?_
          rintro e w4 ⟨rfl, f4⟩
          exact ⟨_, rfl, f4.weak, rfl, trivial⟩
        · have h0 : u 0 = _ := hR 0 (by kernel_rfl)
          clear hR
          simp only [h0]
          refine .inl ⟨by kernel_rfl, ?_⟩
          have hN : Blk w' g10 23 zero32c := by rw [stage, if_neg (by rw [k0 4 (by kernel_rfl)]; exact Bool.false_ne_true)] at kM; exact kM
          clear k1 k0 kM
          refine wp_storeBlk 23 (.tmp 10) (.tmp 54) rfl g10 AV.toArray rfl rfl _ _ hN DA.out.infoR DA.out.zero DA.out.one ?_
          intro w4 b4 f4
          exact ⟨_, rfl, f4, trivial, b4⟩
      · intro u w' hf hR kM
        have h3 : u 3 = _ := hR 3 (by omega)
        clear hR
        have k10 : Blk w' g10 23 AV.toArray := kM
        clear kM
        simp only [List.take_succ_cons, List.take_zero, List.map_cons, List.map_nil, puts, Act.put, List.setIfInBounds_toArray, List.set_cons_zero, List.set_cons_succ, List.drop_succ_cons, List.drop_zero, Nat.reduceAdd, Nat.zero_add, h3]
        have B11 := Lib.hid (E7.out.b11.fr hf (fun e => by have e' : g11 = g10 := e; have := E7.out.l1; have := E7.out.l2; omega))
        have B10 := Lib.hid k10
        have FF := Lib.hid hf
        clear k10 hf
        go_wp2_with (refine wpList_storeBlk rfl 23 (.tmp 11) _ rfl g11 NV.toArray rfl rfl _ _ B11.out DN.out.infoR DN.out.zero DN.out.one ?_)
        intro wz b5 f5
        have J11 := Lib.hid b5
        have J10 := Lib.hid (B10.out.fr f5 (fun e => by have e' : g10 = g11 := e; have := E7.out.l1; have := E7.out.l2; omega))
        have JF : Hid (Fr Nothing w wz) := (E7.out.fr.then_ FF.out (fun i hi e => by have e' : i = g10 := e; have := E7.out.lo; have := E7.out.l1; omega)).then_ f5 (fun i hi e => by have e' : i = g11 := e; have := E7.out.lo; have := E7.out.l1; have := E7.out.l2; omega)
        clear b5 f5
        go_wp2
        exact bodyPost_ret (results_cell_cell (fn := Tryd.f56) (p := 10) (q := 11) (ty := 23) Tryd.results56 _ wz _ _ 23 AV.toArray NV.toArray (0, 0) rfl rfl J10.out J11.out Tryd.underlying23 rfl DA.out.infoR DN.out.infoR) rfl ⟨rfl, JF.out⟩

set_option maxRecDepth 100000 in
set_option maxHeartbeats 2000000 in
theorem extends_right (n : Nat) (ih : ∀ m, m < n → ExtR m) (old : List UInt8) (m : Nat) (whole : Bool) (path : List (List UInt8)) (p1 : Nat) (A : Option Addr) (c : Nat) (S : Nat → Prop) (w : World) (hD : DigL w S A p1 path) (ho : old.length = 32) (h1 : 1 ≤ m) (hmn : m ≤ n) (hn : n ≤ 1048576)
    (hp : p1 = extLen m n whole) (hc : p1 ≤ c) (hcap : c ≤ 9223372036854775807) (e : m ≠ n) (hm : ¬ m ≤ leftN n) :
    Calls Tryd.prog 56 #[digV old, .int .i64 m, .int .i64 n, .bool whole, .slice A p1 c] w (Same' w (.tuple #[digV (extD old m n whole path).1, digV (extD old m n whole path).2])) := by
  obtain ⟨ka, _, kc⟩ := leftN_bounds n (by omega) (by omega)
  have CS := Lib.hid (fun w => Left_any n w (by omega) (by omega))
  have hE := extLen_right whole e (by omega) (by omega) hm
  have hle := extLen_le n m whole h1 hmn (by omega)
  obtain ⟨p, hpp⟩ : ∃ p, p = extLen (m - leftN n) (n - leftN n) false := ⟨_, rfl⟩
  rw [← hpp] at hE
  have hl : path.length = p + 1 := by rw [hD.len, hp, hE]
  have hX := extD_right old whole path hl e (by omega) (by omega) hm
  obtain ⟨ad, last, rfl, _, hd, hd32, hcell⟩ := hD.at_ (k := p) (by omega)
  have hlast : path.getD p [] = last := by rw [List.getD_eq_getElem?_getD, hd]; rfl
  rw [hlast] at hX
  obtain ⟨l1, l2⟩ := extD_length (n - leftN n) old (m - leftN n) false (path.take p) (by omega) (by omega) (by omega) ho (by rw [List.length_take, hl, ← hpp]; omega) (fun d hd => hD.each d (List.mem_of_mem_take hd))
  have CI : Hid (∀ w', Fr Nothing w w' → Calls Tryd.prog 56 #[digV old, .int .i64 ((m - leftN n) : Nat), .int .i64 ((n - leftN n) : Nat), .bool false, .slice (some ad) p c] w' (Same' w' (.tuple #[digV (extD old (m - leftN n) (n - leftN n) false (path.take p)).1, digV (extD old (m - leftN n) (n - leftN n) false (path.take p)).2]))) :=
    fun w' hf => ih _ (by omega) old _ _ (path.take p) p (some ad) c S w' ((hD.take (by omega)).fr0 hf) ho (by omega) (by omega) (by omega) hpp (by omega) hcap
  have HC : Hid (∀ w', Fr Nothing w w' → ∀ j v, (digC last)[j]? = some v → w'.cell? ((ad.add (p * 32)).add j) = some v) := fun w' hf j v hv => hf.cellSome (hcell j v hv) (fun x => x)
  generalize extD old (m - leftN n) (n - leftN n) false (path.take p) = r at *
  have CN : Hid (∀ w', Fr Nothing w w' → Calls Tryd.prog 18 #[digV last, digV r.1] w' (Same' w' (digV (nodeD last r.1)))) := fun w' hf => rNode_any _ _ hd32 l1 w'
  have CM : Hid (∀ w', Fr Nothing w w' → Calls Tryd.prog 18 #[digV last, digV r.2] w' (Same' w' (digV (nodeD last r.2)))) := fun w' hf => rNode_any _ _ hd32 l2 w'
  rw [hX]
  have ln := nodeD_length last r.1
  have lm := nodeD_length last r.2
  show Calls _ _ _ _ (Same' w (.tuple #[digV (nodeD last r.1), digV (nodeD last r.2)]))
  generalize nodeD last r.1 = nn at *
  generalize nodeD last r.2 = mm at *
  generalize r.1 = ra at *
  generalize r.2 = rb at *
  have DA : Hid (Dig (digC ra).toArray) := Dig.of l1
  have DB : Hid (Dig (digC rb).toArray) := Dig.of l2
  have DN : Hid (Dig (digC nn).toArray) := Dig.of ln
  have DM : Hid (Dig (digC mm).toArray) := Dig.of lm
  have HOV : Hid ((Tryd.prog.info? 23).map (·.size) = some (digC old).length) := by rw [digC, List.length_map, ho]; exact info32
  have HAV : Hid ((Tryd.prog.info? 23).map (·.size) = some (digC ra).length) := by rw [digC, List.length_map, l1]; exact info32
  have HBV : Hid ((Tryd.prog.info? 23).map (·.size) = some (digC rb).length) := by rw [digC, List.length_map, l2]; exact info32
  have HLV : Hid ((Tryd.prog.info? 23).map (·.size) = some (digC last).length) := by rw [digC, List.length_map, hd32]; exact info32
  have DL : Hid (Dig (digC last).toArray) := Dig.of hd32
  have AVs : Hid ((digC ra).toArray.size = 32) := DA.out.size
  have BVs : Hid ((digC rb).toArray.size = 32) := DB.out.size
  generalize leftN n = k at *
  have t1 : ((m : Int) == (n : Int)) = false := by rw [beq_eq_false_iff_ne]; omega
  have t2 : decide ((m : Int) ≤ (k : Int)) = false := decide_eq_false (by omega)
  have hp1 : p1 = p + 1 := by omega
  have s1 : (p1 : Int) - 1 = (p : Int) := by omega
  have b1 : (p : Int) ≤ (c : Int) := by omega
  have b2 : (p : Int) < (p1 : Int) := by omega
  have b3 : p < p1 := by omega
  obtain ⟨m', hm'⟩ : ∃ m' : Nat, m' = m - k := ⟨_, rfl⟩
  obtain ⟨n', hn'⟩ : ∃ n' : Nat, n' = n - k := ⟨_, rfl⟩
  rw [← hm', ← hn'] at CI
  have s2 : (m : Int) - (k : Int) = (m' : Int) := by omega
  have s3 : (n : Int) - (k : Int) = (n' : Int) := by omega
  have c1 : m' ≤ 1048576 := by omega
  have c2 : n' ≤ 1048576 := by omega
  have e1 : IntKind.i64.wrap (m' : Int) = (m' : Int) := IntWalk.i64_in _ (by omega)
  have e2 : IntKind.i64.wrap (n' : Int) = (n' : Int) := IntWalk.i64_in _ (by omega)
  clear hm' hn'
  have hp64 : p1 ≤ 1048576 := by omega
  have e3 : IntKind.i64.wrap (p : Int) = (p : Int) := IntWalk.i64_in _ (by omega)
  clear hD hE hle hpp hl hX hlast hd hd32 hcell ih l1 l2 ln ho hp hp1 lm
  unfold digV at *
  simp only [show ∀ l : List UInt8, l.map bvI = digC l from fun _ => rfl] at *
  generalize digC old = OV at *
  generalize digC ra = AV at *
  generalize digC rb = BV at *
  generalize digC last = LV at *
  generalize digC nn = NV at *
  generalize digC mm = MV at *
  go_enter Tryd.func56, Tryd.ntmps56
  go_wp2_with (refine wpList_boxBlk rfl 23 (.tmp 0) rfl _ rfl ?_)
  intro w1 n1
  have N1 := Lib.hid n1
  clear n1
  go_wp2_with (refine wpList_allocBlk rfl 23 rfl zero32 zv32 zero32c rfl ?_)
  intro w2 n2
  have N2 := Lib.hid n2
  clear n2
  go_wp2_with (refine wpList_allocBlk rfl 23 rfl zero32 zv32 zero32c rfl ?_)
  intro w3 n3
  have E3 := Lib.hid (Ext3.of N1.out N2.out n3)
  clear n3 N1 N2
  generalize w.heap.size = g5 at *
  generalize w1.heap.size = g10 at *
  generalize w2.heap.size = g11 at *
  go_upto_region 5 with fail
  refine wp_region_new 10 23 [fun v => v = .int .i64 n, fun v => v = .int .i64 k, fun v => v = .slice (some ad) p1 c, fun v => v = .slice (some ad) p1 c, fun v => v = .int .i64 p1, fun v => v = .int .i64 p, fun v => v = .pointer (some (ad.add (p * 32))), fun v => v = .agg LV.toArray, fun _ => True, fun v => v = .int .i64 k] [] [(8, zero32c)] [] (by kernel_rfl) (by kernel_rfl) (by kernel_rfl) trivial ?_ ?_
  · refine ⟨fun u w' hf hR hW => ?_, fun u w' hf hR hW => ?_, fun u w' hf hR hW => ?_, fun u w' hf hR hW => ?_, fun u w' hf hR hW => ?_, fun u w' hf hR hW => ?_, fun u w' hf hR hW => ?_, fun u w' hf hR hW => ?_, fun u w' hf hR => ?_, fun u w' hf hR hW => ?_, trivial⟩
    all_goals simp only [List.take_succ_cons, List.take_zero, List.map_cons, List.map_nil, puts, Act.put, List.setIfInBounds_toArray, List.set_cons_zero, List.set_cons_succ, Nat.reduceAdd, Nat.zero_add]
    · clear hR hW
      refine .inl ⟨by kernel_rfl, ?_⟩
      go_simp
      exact ⟨_, rfl, rfl, trivial, Fr.refl _ _⟩
    · have h0 : u 0 = _ := hR 0 (by kernel_rfl)
      clear hR hW
      simp only [h0]
      refine .inl ⟨by kernel_rfl, ?_⟩
      go_simp
      refine (CS.out _).mono ?_
      rintro e w4 ⟨rfl, rfl⟩
      exact ⟨_, rfl, rfl, trivial, Fr.refl _ _⟩
    · clear hR hW
      refine .inl ⟨by kernel_rfl, ?_⟩
      go_simp
      exact ⟨_, rfl, rfl, trivial, Fr.refl _ _⟩
    · clear hR hW
      refine .inl ⟨by kernel_rfl, ?_⟩
      go_simp
      exact ⟨_, rfl, rfl, trivial, Fr.refl _ _⟩
    · have h3 : u 3 = _ := hR 3 (by kernel_rfl)
      clear hR hW
      simp only [h3]
      refine .inl ⟨by kernel_rfl, ?_⟩
      go_simp
      exact ⟨_, rfl, rfl, trivial, Fr.refl _ _⟩
    · have h4 : u 4 = _ := hR 4 (by kernel_rfl)
      clear hR hW
      simp only [h4]
      refine .inl ⟨by kernel_rfl, ?_⟩
      go_simp
      exact ⟨_, rfl, rfl, trivial, Fr.refl _ _⟩
    · have h2 : u 2 = _ := hR 2 (by kernel_rfl)
      have h5 : u 5 = _ := hR 5 (by kernel_rfl)
      clear hR hW
      simp only [h2, h5]
      refine .inl ⟨by kernel_rfl, ?_⟩
      go_simp
      exact ⟨_, rfl, rfl, trivial, Fr.refl _ _⟩
    · have h6 : u 6 = _ := hR 6 (by kernel_rfl)
      clear hR hW
      simp only [h6]
      refine .inl ⟨by kernel_rfl, ?_⟩
      exact wp_load_add _ _ rfl (ad.add (p * 32)) rfl LV _ (HC.out _ (E3.out.fr.trans hf)) Tryd.underlying23 rfl HLV.out ⟨_, rfl, rfl, trivial, Fr.refl _ _⟩
    · clear hR
      refine .inl ⟨by kernel_rfl, ?_⟩
      refine wp_allocBlk 23 rfl zero32 zv32 zero32c rfl ?_
      intro w4 n4
      exact ⟨_, rfl, trivial, trivial, rfl, n4⟩
    · have h1 : u 1 = _ := hR 1 (by kernel_rfl)
      clear hR hW
      simp only [h1]
      refine .inl ⟨by kernel_rfl, ?_⟩
      go_simp
      exact ⟨_, rfl, rfl, trivial, Fr.refl _ _⟩
  · intro u w' hf hR hN hA
    have h7 : u 7 = _ := hR 7 (by omega)
    have h9 : u 9 = _ := hR 9 (by omega)
    obtain ⟨g13, h8, l13, b13⟩ := hN 8 zero32c (by simp)
    have b13' : Blk w' g13 23 zero32c := b13
    have n13 : Hid (g11 < g13) := Nat.lt_of_lt_of_le E3.out.b11.lt l13
    have E4 := Lib.hid (E3.out.later hf)
    have L4 := Lib.hid b13'
    clear hR hN hA hf b13 b13' E3 l13
    simp only [List.take_succ_cons, List.take_zero, List.map_cons, List.map_nil, puts, Act.put, List.setIfInBounds_toArray, List.set_cons_zero, List.set_cons_succ, List.drop_succ_cons, List.drop_zero, Nat.reduceAdd, Nat.zero_add, h7, h8, h9]
    go_wp2_with (refine wpList_storeBlk rfl 23 (.tmp 13) _ rfl g13 LV.toArray rfl rfl _ _ L4.out DL.out.infoR DL.out.zero DL.out.one ?_)
    intro w5 b5 f5
    have E5 := Lib.hid (E4.out.keep f5 n13.out)
    have L5 := Lib.hid b5
    clear b5 f5 E4 L4 HC CS
    go_upto_region 9 with fail
    refine wp_region_new 19 23 [fun v => v = .agg OV.toArray, fun v => v = .int .i64 m, fun v => v = .int .i64 k, fun v => v = .int .i64 m', fun v => v = .int .i64 n, fun v => v = .int .i64 k, fun v => v = .int .i64 n', fun v => v = .slice (some ad) p1 c, fun v => v = .slice (some ad) p1 c, fun v => v = .int .i64 p1, fun v => v = .int .i64 p, fun v => v = .slice (some ad) p c, fun v => v = .tuple #[.agg AV.toArray, .agg BV.toArray], fun v => v = .tuple #[.agg AV.toArray, .agg BV.toArray], fun v => v = .agg AV.toArray, fun v => v = .agg BV.toArray, fun _ => True, fun _ => True, fun _ => True] [] [(16, zero32c), (17, zero32c)] [(18, 16, AV.toArray)] (by kernel_rfl) (by kernel_rfl) (by kernel_rfl) trivial ?_ ?_
    · refine ⟨fun u w' hf hR hW => ?_, fun u w' hf hR hW => ?_, fun u w' hf hR hW => ?_, fun u w' hf hR hW => ?_, fun u w' hf hR hW => ?_, fun u w' hf hR hW => ?_, fun u w' hf hR hW => ?_, fun u w' hf hR hW => ?_, fun u w' hf hR hW => ?_, fun u w' hf hR hW => ?_, fun u w' hf hR hW => ?_, fun u w' hf hR hW => ?_, fun u w' hf hR hW => ?_, fun u w' hf hR hW => ?_, fun u w' hf hR hW => ?_, fun u w' hf hR hW => ?_, fun u w' hf hR => ?_, fun u w' hf hR => ?_, fun u w' g hf hR hg hb => ?_, trivial⟩
      all_goals simp only [List.take_succ_cons, List.take_zero, List.map_cons, List.map_nil, puts, Act.put, List.setIfInBounds_toArray, List.set_cons_zero, List.set_cons_succ, Nat.reduceAdd, Nat.zero_add]
      · clear hR hW
        refine .inl ⟨by kernel_rfl, ?_⟩
        exact wp_load_mid _ _ rfl g5 0 rfl OV _ (range_blk (E5.out.b5.fr hf (fun x => x))) Tryd.underlying23 rfl HOV.out ⟨_, rfl, rfl, trivial, Fr.refl _ _⟩
      · clear hR hW
        refine .inl ⟨by kernel_rfl, ?_⟩
        go_simp
        exact ⟨_, rfl, rfl, trivial, Fr.refl _ _⟩
      · clear hR hW
        refine .inl ⟨by kernel_rfl, ?_⟩
        go_simp
        exact ⟨_, rfl, rfl, trivial, Fr.refl _ _⟩
      · have h1 : u 1 = _ := hR 1 (by kernel_rfl)
        have h2 : u 2 = _ := hR 2 (by kernel_rfl)
        clear hR hW
        simp only [h1, h2]
        refine .inl ⟨by kernel_rfl, ?_⟩
        go_simp
        exact ⟨_, rfl, rfl, trivial, Fr.refl _ _⟩
      · clear hR hW
        refine .inl ⟨by kernel_rfl, ?_⟩
        go_simp
        exact ⟨_, rfl, rfl, trivial, Fr.refl _ _⟩
      · clear hR hW
        refine .inl ⟨by kernel_rfl, ?_⟩
        go_simp
        exact ⟨_, rfl, rfl, trivial, Fr.refl _ _⟩
      · have h4 : u 4 = _ := hR 4 (by kernel_rfl)
        have h5 : u 5 = _ := hR 5 (by kernel_rfl)
        clear hR hW
        simp only [h4, h5]
        refine .inl ⟨by kernel_rfl, ?_⟩
        go_simp
        exact ⟨_, rfl, rfl, trivial, Fr.refl _ _⟩
      · clear hR hW
        refine .inl ⟨by kernel_rfl, ?_⟩
        go_simp
        exact ⟨_, rfl, rfl, trivial, Fr.refl _ _⟩
      · clear hR hW
        refine .inl ⟨by kernel_rfl, ?_⟩
        go_simp
        exact ⟨_, rfl, rfl, trivial, Fr.refl _ _⟩
      · have h8 : u 8 = _ := hR 8 (by kernel_rfl)
        clear hR hW
        simp only [h8]
        refine .inl ⟨by kernel_rfl, ?_⟩
        go_simp
        exact ⟨_, rfl, rfl, trivial, Fr.refl _ _⟩
      · have h9 : u 9 = _ := hR 9 (by kernel_rfl)
        clear hR hW
        simp only [h9]
        refine .inl ⟨by kernel_rfl, ?_⟩
        go_simp
        exact ⟨_, rfl, rfl, trivial, Fr.refl _ _⟩
      · have h7 : u 7 = _ := hR 7 (by kernel_rfl)
        have h10 : u 10 = _ := hR 10 (by kernel_rfl)
        clear hR hW
        simp only [h7, h10]
        refine .inl ⟨by kernel_rfl, ?_⟩
        go_simp
        exact ⟨_, rfl, rfl, trivial, Fr.refl _ _⟩
      · have h0 : u 0 = _ := hR 0 (by kernel_rfl)
        have h3 : u 3 = _ := hR 3 (by kernel_rfl)
        have h6 : u 6 = _ := hR 6 (by kernel_rfl)
        have h11 : u 11 = _ := hR 11 (by kernel_rfl)
        clear hR hW
        simp only [h0, h3, h6, h11]
        refine .inl ⟨by kernel_rfl, ?_⟩
        go_simp
        refine (CI.out _ (E5.out.fr.trans hf)).mono ?_
        rintro e w4 ⟨rfl, f4⟩
        exact ⟨_, rfl, rfl, trivial, f4⟩
      · have h12 : u 12 = _ := hR 12 (by kernel_rfl)
        clear hR hW
        simp only [h12]
        refine .inl ⟨by kernel_rfl, ?_⟩
        go_simp
        exact ⟨_, rfl, rfl, trivial, Fr.refl _ _⟩
      · have h13 : u 13 = _ := hR 13 (by kernel_rfl)
        clear hR hW
        simp only [h13]
        refine .inl ⟨by kernel_rfl, ?_⟩
        go_simp
        exact ⟨_, rfl, rfl, trivial, Fr.refl _ _⟩
      · have h13 : u 13 = _ := hR 13 (by kernel_rfl)
        clear hR hW
        simp only [h13]
        refine .inl ⟨by kernel_rfl, ?_⟩
        go_simp
        exact ⟨_, rfl, rfl, trivial, Fr.refl _ _⟩
      · clear hR
        refine .inl ⟨by kernel_rfl, ?_⟩
        refine wp_allocBlk 23 rfl zero32 zv32 zero32c rfl ?_
        intro w4 n4
        exact ⟨_, rfl, trivial, trivial, rfl, n4⟩
      · clear hR
        refine .inl ⟨by kernel_rfl, ?_⟩
        refine wp_allocBlk 23 rfl zero32 zv32 zero32c rfl ?_
        intro w4 n4
        exact ⟨_, rfl, trivial, trivial, rfl, n4⟩
      · have h14 : u 14 = _ := hR 14 (by kernel_rfl)
        clear hR
        simp only [h14, hg]
        refine .inl ⟨by kernel_rfl, ?_⟩
        obtain ⟨cs, hm, hb⟩ := hb
        obtain rfl : cs = zero32c := by simpa using hm
        refine wp_storeBlk 23 (.tmp 16) (.tmp 72) rfl g AV.toArray rfl rfl _ _ hb DA.out.infoR DA.out.zero DA.out.one ?_
        intro w4 b4 f4
        exact ⟨_, rfl, trivial, b4, f4⟩
    · intro u w' hf hR hN hA
      have hv : u 15 = _ := hR 15 (by omega)
      obtain ⟨g14, h13, l14, b14⟩ := hN 16 zero32c (by simp)
      obtain ⟨g15, h14, l15, b15⟩ := hN 17 zero32c (by simp)
      have hne : Hid (g14 ≠ g15) := by
        intro e
        exact hA 16 zero32c 17 zero32c (by simp) (by simp) (by omega) (by rw [h13, h14, e])
      have A6 : Hid (Blk w' g14 23 AV.toArray) := b14
      have B6 : Hid (Blk w' g15 23 zero32c) := b15
      have z6 : Hid (g11 < g14 ∧ g11 < g15 ∧ g13 < g15 ∧ g13 < g14) := ⟨Nat.lt_of_lt_of_le E5.out.b11.lt l14, Nat.lt_of_lt_of_le E5.out.b11.lt l15, Nat.lt_of_lt_of_le L5.out.lt l15, Nat.lt_of_lt_of_le L5.out.lt l14⟩
      have E6 := Lib.hid (E5.out.later hf)
      have L6 := Lib.hid (L5.out.fr hf (fun x => x))
      clear hR hN hA hf b14 b15 l14 l15 E5 L5 CI
      simp only [List.take_succ_cons, List.take_zero, List.map_cons, List.map_nil, puts, Act.put, List.setIfInBounds_toArray, List.set_cons_zero, List.set_cons_succ, List.drop_succ_cons, List.drop_zero, Nat.reduceAdd, Nat.zero_add, hv, h13, h14]
      go_wp2_with (refine wpList_storeBlk rfl 23 (.tmp 17) _ rfl g15 BV.toArray rfl rfl _ _ B6.out DB.out.infoR DB.out.zero DB.out.one ?_)
      intro w7 b7 f7
      have B7 := Lib.hid b7
      have A7 := Lib.hid (A6.out.fr f7 hne.out)
      have E7 := Lib.hid (E6.out.keep f7 z6.out.2.1)
      have L7 := Lib.hid (L6.out.fr f7 (fun e => by have e' : g13 = g15 := e; have := z6.out; omega))
      clear b7 f7 E6 L6 A6 B6 hne
      go_upto_region 10 with fail
      refine wp_region_st 7 (fun k => k = g10) [Is (.agg LV.toArray), Is (.agg AV.toArray), Is (.agg NV.toArray), Is (.agg LV.toArray), Is (.agg BV.toArray), Is (.agg MV.toArray), fun _ _ => True] [(6, fun w' => Blk w' g10 23 NV.toArray)] (fun w' => Blk w' g10 23 zero32c) (fun _ _ => false) (by kernel_rfl) (by kernel_rfl) (by kernel_rfl) (by kernel_rfl) ⟨Is.stable _, Is.stable _, Is.stable _, Is.stable _, Is.stable _, Is.stable _, fun _ _ _ _ _ h => h, trivial⟩ ⟨fun _ _ _ hf h => h.fr hf (fun x => x), trivial⟩ (fun _ _ _ hf h => h.fr hf (fun x => x)) E7.out.b10 ?_ ?_
      · refine ⟨fun u w' d hf hR k1 k0 kM => ?_, fun u w' d hf hR k1 k0 kM => ?_, fun u w' d hf hR k1 k0 kM => ?_, fun u w' d hf hR k1 k0 kM => ?_, fun u w' d hf hR k1 k0 kM => ?_, fun u w' d hf hR k1 k0 kM => ?_, fun u w' d hf hR k1 k0 kM => ?_, trivial⟩
        all_goals simp only [List.take_succ_cons, List.take_zero, List.map_cons, List.map_nil, puts, Act.put, List.setIfInBounds_toArray, List.set_cons_zero, List.set_cons_succ, Nat.reduceAdd, Nat.zero_add]
        · clear hR k1 k0 kM
          refine .inl ⟨by kernel_rfl, ?_⟩
          exact wp_load_mid _ _ rfl g13 0 rfl LV _ (range_blk (L7.out.fr hf (fun e => by have e' : g13 = g10 := e; have := z6.out; have := n13.out; have := E7.out.l1; have := E7.out.l2; omega))) Tryd.underlying23 rfl HLV.out ⟨_, rfl, Fr.refl _ _, rfl, trivial⟩
        · clear hR k1 k0 kM
          refine .inl ⟨by kernel_rfl, ?_⟩
          exact wp_load_mid _ _ rfl g14 0 rfl AV _ (range_blk (A7.out.fr hf (fun e => by have e' : g14 = g10 := e; have := z6.out; have := n13.out; have := E7.out.l1; have := E7.out.l2; omega))) Tryd.underlying23 rfl HAV.out ⟨_, rfl, Fr.refl _ _, rfl, trivial⟩
        · have h0 : u 0 = _ := hR 0 (by kernel_rfl)
          have h1 : u 1 = _ := hR 1 (by kernel_rfl)
          clear hR k1 k0 kM
          simp only [h0, h1]
          refine .inl ⟨by kernel_rfl, ?_⟩
          go_simp
          refine (CN.out _ (E7.out.fr.then_ hf (fun i hi e => by have e' : i = g10 := e; have := E7.out.lo; have := E7.out.l1; omega))).mono ?_
          rintro e w4 ⟨rfl, f4⟩
          exact ⟨_, rfl, f4.weak, rfl, trivial⟩
        · clear hR k1 k0 kM
          refine .inl ⟨by kernel_rfl, ?_⟩
          exact wp_load_mid _ _ rfl g13 0 rfl LV _ (range_blk (L7.out.fr hf (fun e => by have e' : g13 = g10 := e; have := z6.out; have := n13.out; have := E7.out.l1; have := E7.out.l2; omega))) Tryd.underlying23 rfl HLV.out ⟨_, rfl, Fr.refl _ _, rfl, trivial⟩
        · clear hR k1 k0 kM
          refine .inl ⟨by kernel_rfl, ?_⟩
          exact wp_load_mid _ _ rfl g15 0 rfl BV _ (range_blk (B7.out.fr hf (fun e => by have e' : g15 = g10 := e; have := z6.out; have := n13.out; have := E7.out.l1; have := E7.out.l2; omega))) Tryd.underlying23 rfl HBV.out ⟨_, rfl, Fr.refl _ _, rfl, trivial⟩
        · have h3 : u 3 = _ := hR 3 (by kernel_rfl)
          have h4 : u 4 = _ := hR 4 (by kernel_rfl)
          clear hR k1 k0 kM
          simp only [h3, h4]
          refine .inl ⟨by kernel_rfl, ?_⟩
          go_simp
          refine (CM.out _ (E7.out.fr.then_ hf (fun i hi e => by have e' : i = g10 := e; have := E7.out.lo; have := E7.out.l1; omega))).mono ?_
          rintro e w4 ⟨rfl, f4⟩
          exact ⟨_, rfl, f4.weak, rfl, trivial⟩
        · have h2 : u 2 = _ := hR 2 (by kernel_rfl)
          clear hR
          simp only [h2]
          refine .inl ⟨by kernel_rfl, ?_⟩
          have hN : Blk w' g10 23 zero32c := by rw [stage, if_neg (by rw [k0 6 (by kernel_rfl)]; exact Bool.false_ne_true)] at kM; exact kM
          clear k1 k0 kM
          refine wp_storeBlk 23 (.tmp 10) (.tmp 76) rfl g10 NV.toArray rfl rfl _ _ hN DN.out.infoR DN.out.zero DN.out.one ?_
          intro w4 b4 f4
          exact ⟨_, rfl, f4, trivial, b4⟩
      · intro u w' hf hR kM
        have h5 : u 5 = _ := hR 5 (by omega)
        clear hR
        have k10 : Blk w' g10 23 NV.toArray := kM
        clear kM
        simp only [List.take_succ_cons, List.take_zero, List.map_cons, List.map_nil, puts, Act.put, List.setIfInBounds_toArray, List.set_cons_zero, List.set_cons_succ, List.drop_succ_cons, List.drop_zero, Nat.reduceAdd, Nat.zero_add, h5]
        have B11 := Lib.hid (E7.out.b11.fr hf (fun e => by have e' : g11 = g10 := e; have := E7.out.l1; have := E7.out.l2; omega))
        have B10 := Lib.hid k10
        have FF := Lib.hid hf
        clear k10 hf
        go_wp2_with (refine wpList_storeBlk rfl 23 (.tmp 11) _ rfl g11 MV.toArray rfl rfl _ _ B11.out DM.out.infoR DM.out.zero DM.out.one ?_)
        intro wz b5 f5
        have J11 := Lib.hid b5
        have J10 := Lib.hid (B10.out.fr f5 (fun e => by have e' : g10 = g11 := e; have := E7.out.l1; have := E7.out.l2; omega))
        have JF : Hid (Fr Nothing w wz) := (E7.out.fr.then_ FF.out (fun i hi e => by have e' : i = g10 := e; have := E7.out.lo; have := E7.out.l1; omega)).then_ f5 (fun i hi e => by have e' : i = g11 := e; have := E7.out.lo; have := E7.out.l1; have := E7.out.l2; omega)
        clear b5 f5
        go_wp2
        exact bodyPost_ret (results_cell_cell (fn := Tryd.f56) (p := 10) (q := 11) (ty := 23) Tryd.results56 _ wz _ _ 23 NV.toArray MV.toArray (0, 0) rfl rfl J10.out J11.out Tryd.underlying23 rfl DN.out.infoR DM.out.infoR) rfl ⟨rfl, JF.out⟩

theorem extends_any (n : Nat) : ExtR n := by
  induction n using Nat.strongRecOn with
  | _ n ih =>
    intro old m whole path p A c S w hD ho h1 hmn hn hp hc hcap
    by_cases e : m = n
    · subst e
      rw [extD_eq]
      rw [extLen_eq] at hp
      cases whole
      · obtain rfl : p = 1 := hp
        exact extends_part old m path A c S w hD
      · exact extends_whole old ho m _ w
    · by_cases hm : m ≤ leftN n
      · exact extends_left n ih old m whole path p A c S w hD ho h1 hmn hn hp hc hcap e hm
      · exact extends_right n ih old m whole path p A c S w hD ho h1 hmn hn hp hc hcap e hm
end Go.Proofs.YtkaghbpdnmigmaaDoor
