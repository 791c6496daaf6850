/- logtree.extend (written by genS.py). -/
import Derived.Test.YtkaghbpdnmigmaaDoorLtQ
namespace Go.Proofs.YtkaghbpdnmigmaaDoor
open Go.RowKit

theorem wp_storeBlk {P : Program} {o : Oper} {a : Act} {w : World} {K : Act → World → Prop} {Q : Exit → Act → World → Prop} (ty : TypeId) (x y : Operand) (ho : o.op = .store ty x y)
    (g : Nat) (cells : Array Value) (hx : a.eval x = .pointer (some ⟨g, 0, none⟩)) (hy : a.eval y = .agg cells)
    (t : TypeId) (old : Array Value) (hg : Blk w g t old) (hi : (P.info? ty).map (·.size) = some cells.size)
    (hold : old.size = cells.size) (h1 : cells.all (·.oneCell') = true)
    (h : ∀ w', Blk w' g t cells → Fr (fun k => k = g) w w' → K (a.put o.dst undef) w') : o.wp P a w K Q :=
  wp_store_row ty x y ho g cells hx hy t old hg hi hold h1 (h _ (heap_setRow_same hg) ((Fr.refl (fun k => k = g) w).setRow (fun _ => rfl) cells))

theorem results_cell_cell {P : Program} {fn : Func} {p q : Tmp} {ty : TypeId} (h : fn.results = #[.cell p ty, .cell q ty]) (tmps : Array Value) (w : World) (g g' : Nat) (t : TypeId) (cs cs' : Array Value) (fr : Nat × Nat) {d : TypeDesc}
    (hp : tmps.getD p undef = .pointer (some ⟨g, 0, none⟩)) (hq : tmps.getD q undef = .pointer (some ⟨g', 0, none⟩)) (hg : w.heap[g]? = some (.cells cs t fr)) (hg' : w.heap[g']? = some (.cells cs' t fr))
    (hu : P.underlying ty = some d) (hd : (match d with | .struct _ | .array _ _ => true | _ => false) = true) (hi : (P.info? ty).map (·.size) = some cs.size) (hi' : (P.info? ty).map (·.size) = some cs'.size) :
    (results fn tmps).run P w = .ok (.tuple #[.agg cs, .agg cs']) w := by
  have hp' : tmps[p]?.getD undef = .pointer (some ⟨g, 0, none⟩) := by simpa using hp
  have hq' : tmps[q]?.getD undef = .pointer (some ⟨g', 0, none⟩) := by simpa using hq
  simp [results, h, hp', hq', asAddr, run_loadVar_row w g t ty cs fr d hg hu hd hi, run_loadVar_row w g' t ty cs' fr d hg' hu hd hi']

/-- The three blocks with which the call begins. -/
structure Ext3 (w w3 : World) (ty : TypeId) (OV : Array Value) (X Y : Array Value) (g5 g10 g11 : Nat) : Prop where
  fr : Fr Nothing w w3
  b5 : Blk w3 g5 ty OV
  b10 : Blk w3 g10 ty X
  b11 : Blk w3 g11 ty Y
  lo : w.heap.size ≤ g5
  l1 : g5 < g10
  l2 : g10 < g11
theorem Ext3.of {w w1 w2 w3 : World} {ty : TypeId} {OV : Array Value} (h1 : NewBlk w w1 ty OV) (h2 : NewBlk w1 w2 ty zero32c) (h3 : NewBlk w2 w3 ty zero32c) : Ext3 w w3 ty OV zero32c zero32c w.heap.size w1.heap.size w2.heap.size :=
  ⟨h1.fr.trans (h2.fr.trans h3.fr), (h1.blk.fr h2.fr (fun x => x)).fr h3.fr (fun x => x), h2.blk.fr h3.fr (fun x => x), h3.blk, Nat.le_refl _, by rw [h1.size]; omega, by rw [h2.size]; omega⟩
/-- Both results stored. -/
theorem Ext3.stored {w w3 w4 w5 : World} {ty : TypeId} {OV X Y X' Y' : Array Value} {g5 g10 g11 : Nat} (h : Ext3 w w3 ty OV X Y g5 g10 g11) (hf : Fr (fun k => k = g10) w3 w4) (hb : Blk w4 g10 ty X') (hf' : Fr (fun k => k = g11) w4 w5) (hb' : Blk w5 g11 ty Y') : Ext3 w w5 ty OV X' Y' g5 g10 g11 := by
  have := h.l1
  have := h.l2
  have := h.lo
  exact ⟨(h.fr.then_ hf (fun i hi e => by have e' : i = g10 := e; omega)).then_ hf' (fun i hi e => by have e' : i = g11 := e; omega),
    (h.b5.fr hf (fun e => by have e' : g5 = g10 := e; omega)).fr hf' (fun e => by have e' : g5 = g11 := e; omega),
    hb.fr hf' (fun e => by have e' : g10 = g11 := e; omega), hb', h.lo, h.l1, h.l2⟩

def ExtC (n : Nat) : Prop := ∀ (old : List UInt8) (m : Nat) (whole : Bool) (path : List (List UInt8)) (p : Nat) (A : Option Addr) (c : Nat) (S : Nat → Prop) (w : World), DigL w S A p path → old.length = 32 → 1 ≤ m → m ≤ n → n ≤ 1048576 → p = extLen m n whole → p ≤ c → c ≤ 9223372036854775807 → ShaTab w →
  Calls Tryd.prog 54 #[digV old, .int .i64 m, .int .i64 n, .bool whole, .slice A p c] w (Same' w (.tuple #[digV (extD old m n whole path).1, digV (extD old m n whole path).2]))

set_option maxRecDepth 100000 in
set_option maxHeartbeats 1000000 in
theorem extend_whole (old : List UInt8) (ho : old.length = 32) (m : Nat) (v : Value) (w : World) : Calls Tryd.prog 54 #[digV old, .int .i64 m, .int .i64 m, .bool true, v] w (Same' w (.tuple #[digV old, digV old])) := by
  have DO : Hid (Dig (digC old).toArray) := Dig.of ho
  have HOV : Hid ((Tryd.prog.info? 24).map (·.size) = some (digC old).length) := by rw [digC, List.length_map, ho]; exact infoD
  unfold digV at *
  change Calls _ _ #[.agg (digC old).toArray, _, _, _, _] _ (Same' w (.tuple #[.agg (digC old).toArray, .agg (digC old).toArray]))
  generalize digC old = OV at *
  go_enter Tryd.func54, Tryd.ntmps54
  go_wp2_with (refine wpList_boxBlk rfl 24 (.tmp 0) rfl _ rfl ?_)
  intro w1 n1
  have N1 := Lib.hid n1
  clear n1
  go_wp2_with (refine wpList_allocBlk rfl 24 rfl zero32 zvD zero32c rfl ?_)
  intro w2 n2
  have N2 := Lib.hid n2
  clear n2
  go_wp2_with (refine wpList_allocBlk rfl 24 rfl zero32 zvD zero32c rfl ?_)
  intro w3 n3
  have E3 := Lib.hid (Ext3.of N1.out N2.out n3)
  clear n3 N1 N2
  generalize w.heap.size = g5 at *
  generalize w1.heap.size = g10 at *
  generalize w2.heap.size = g11 at *
  go_upto_region 2 with fail
  refine wp_region_st 3 (fun k => k = g10) [Is (.agg OV.toArray), Is (.agg OV.toArray), fun _ _ => True] [(2, fun w' => Blk w' g10 24 OV.toArray)] (fun w' => Blk w' g10 24 zero32c) (fun _ _ => false) (by kernel_rfl) (by kernel_rfl) (by kernel_rfl) (by kernel_rfl) ⟨Is.stable _, Is.stable _, fun _ _ _ _ _ h => h, trivial⟩ ⟨fun _ _ _ hf h => h.fr hf (fun x => x), trivial⟩ (fun _ _ _ hf h => h.fr hf (fun x => x)) E3.out.b10 ?_ ?_
  · refine ⟨fun u w' d hf hR k1 k0 kM => ?_, fun u w' d hf hR k1 k0 kM => ?_, fun u w' d hf hR k1 k0 kM => ?_, trivial⟩
    all_goals simp only [List.take_succ_cons, List.take_zero, List.map_cons, List.map_nil, puts, Act.put, List.setIfInBounds_toArray, List.set_cons_zero, List.set_cons_succ, Nat.reduceAdd, Nat.zero_add]
    · clear hR k1 k0 kM
      refine .inl ⟨by kernel_rfl, ?_⟩
      exact wp_load_mid _ _ rfl g5 0 rfl OV _ (range_blk (E3.out.b5.fr hf (fun e => by have e' : g5 = g10 := e; have := E3.out.l1; have := E3.out.l2; omega))) Tryd.underlying24 rfl HOV.out ⟨_, rfl, Fr.refl _ _, rfl, trivial⟩
    · clear hR k1 k0 kM
      refine .inl ⟨by kernel_rfl, ?_⟩
      exact wp_load_mid _ _ rfl g5 0 rfl OV _ (range_blk (E3.out.b5.fr hf (fun e => by have e' : g5 = g10 := e; have := E3.out.l1; have := E3.out.l2; omega))) Tryd.underlying24 rfl HOV.out ⟨_, rfl, Fr.refl _ _, rfl, trivial⟩
    · have h0 : u 0 = _ := hR 0 (by kernel_rfl)
      clear hR
      simp only [h0]
      refine .inl ⟨by kernel_rfl, ?_⟩
      have hN : Blk w' g10 24 zero32c := by rw [stage, if_neg (by rw [k0 2 (by kernel_rfl)]; exact Bool.false_ne_true)] at kM; exact kM
      clear k1 k0 kM
      refine wp_storeBlk 24 (.tmp 10) (.tmp 21) rfl g10 OV.toArray rfl rfl _ _ hN DO.out.info DO.out.zero DO.out.one ?_
      intro w4 b4 f4
      exact ⟨_, rfl, f4, trivial, b4⟩
  · intro u w' hf hR kM
    have h1 : u 1 = _ := hR 1 (by omega)
    clear hR
    have k10 : Blk w' g10 24 OV.toArray := kM
    clear kM
    simp only [List.take_succ_cons, List.take_zero, List.map_cons, List.map_nil, puts, Act.put, List.setIfInBounds_toArray, List.set_cons_zero, List.set_cons_succ, List.drop_succ_cons, List.drop_zero, Nat.zero_add, h1]
    have B11 := Lib.hid (E3.out.b11.fr hf (fun e => by have e' : g11 = g10 := e; have := E3.out.l1; have := E3.out.l2; omega))
    have B10 := Lib.hid k10
    have FF := Lib.hid hf
    clear k10 hf
    go_wp2_with (refine wpList_storeBlk rfl 24 (.tmp 11) _ rfl g11 OV.toArray rfl rfl _ _ B11.out DO.out.info DO.out.zero DO.out.one ?_)
    intro wz b5 f5
    have J11 := Lib.hid b5
    have J10 := Lib.hid (B10.out.fr f5 (fun e => by have e' : g10 = g11 := e; have := E3.out.l1; have := E3.out.l2; omega))
    have JF : Hid (Fr Nothing w wz) := (E3.out.fr.then_ FF.out (fun i hi e => by have e' : i = g10 := e; have := E3.out.lo; have := E3.out.l1; omega)).then_ f5 (fun i hi e => by have e' : i = g11 := e; have := E3.out.lo; have := E3.out.l1; have := E3.out.l2; omega)
    clear b5 f5
    go_wp2
    exact bodyPost_ret (results_cell_cell (fn := Tryd.f54) (p := 10) (q := 11) (ty := 24) Tryd.results54 _ wz _ _ 24 OV.toArray OV.toArray (0, 0) rfl rfl J10.out J11.out Tryd.underlying24 rfl DO.out.info DO.out.info) rfl ⟨rfl, JF.out⟩

set_option maxRecDepth 100000 in
set_option maxHeartbeats 1000000 in
theorem extend_part (old : List UInt8) (m : Nat) (path : List (List UInt8)) (A : Option Addr) (c : Nat) (S : Nat → Prop) (w : World) (hD : DigL w S A 1 path) : Calls Tryd.prog 54 #[digV old, .int .i64 m, .int .i64 m, .bool false, .slice A 1 c] w (Same' w (.tuple #[digV (path.headD []), digV (path.headD [])])) := by
  obtain ⟨ad, d, rfl, _, hd, hd32, hcell⟩ := hD.at_ (k := 0) (by omega)
  have he : path.headD [] = d := by
    match path, hD.len, hd with
    | [x], _, hd => cases hd; rfl
    | [], hl, _ => simp at hl
    | _ :: _ :: _, hl, _ => simp at hl
  rw [he]
  rw [Nat.zero_mul, show ad.add 0 = ad from rfl] at hcell
  have HC : Hid (∀ w', Fr Nothing w w' → ∀ j v, (digC d)[j]? = some v → w'.cell? (ad.add j) = some v) := fun w' hf j v hv => hf.cellSome (hcell j v hv) (fun x => x)
  have DP : Hid (Dig (digC d).toArray) := Dig.of hd32
  have HPV : Hid ((Tryd.prog.info? 24).map (·.size) = some (digC d).length) := by rw [digC, List.length_map, hd32]; exact infoD
  clear hcell hd hd32 he hD
  unfold digV at *
  change Calls _ _ #[.agg (digC old).toArray, _, _, _, _] _ (Same' w (.tuple #[.agg (digC d).toArray, .agg (digC d).toArray]))
  generalize digC old = OV at *
  generalize digC d = PV at *
  go_enter Tryd.func54, Tryd.ntmps54
  go_wp2_with (refine wpList_boxBlk rfl 24 (.tmp 0) rfl _ rfl ?_)
  intro w1 n1
  have N1 := Lib.hid n1
  clear n1
  go_wp2_with (refine wpList_allocBlk rfl 24 rfl zero32 zvD zero32c rfl ?_)
  intro w2 n2
  have N2 := Lib.hid n2
  clear n2
  go_wp2_with (refine wpList_allocBlk rfl 24 rfl zero32 zvD zero32c rfl ?_)
  intro w3 n3
  have E3 := Lib.hid (Ext3.of N1.out N2.out n3)
  clear n3 N1 N2
  generalize w.heap.size = g5 at *
  generalize w1.heap.size = g10 at *
  generalize w2.heap.size = g11 at *
  go_upto_region 4 with fail
  refine wp_region_st 7 (fun k => k = g10) [Is (.slice (some ad) 1 c), Is (.pointer (some ad)), Is (.agg PV.toArray), Is (.slice (some ad) 1 c), Is (.pointer (some ad)), Is (.agg PV.toArray), fun _ _ => True] [(6, fun w' => Blk w' g10 24 PV.toArray)] (fun w' => Blk w' g10 24 zero32c) (fun _ _ => false) (by kernel_rfl) (by kernel_rfl) (by kernel_rfl) (by kernel_rfl) ⟨Is.stable _, Is.stable _, Is.stable _, Is.stable _, Is.stable _, Is.stable _, fun _ _ _ _ _ h => h, trivial⟩ ⟨fun _ _ _ hf h => h.fr hf (fun x => x), trivial⟩ (fun _ _ _ hf h => h.fr hf (fun x => x)) E3.out.b10 ?_ ?_
  · refine ⟨fun u w' d hf hR k1 k0 kM => ?_, fun u w' d hf hR k1 k0 kM => ?_, fun u w' d hf hR k1 k0 kM => ?_, fun u w' d hf hR k1 k0 kM => ?_, fun u w' d hf hR k1 k0 kM => ?_, fun u w' d hf hR k1 k0 kM => ?_, fun u w' d hf hR k1 k0 kM => ?_, trivial⟩
    all_goals simp only [List.take_succ_cons, List.take_zero, List.map_cons, List.map_nil, puts, Act.put, List.setIfInBounds_toArray, List.set_cons_zero, List.set_cons_succ, Nat.reduceAdd, Nat.zero_add]
    · clear hR k1 k0 kM
      refine .inl ⟨by kernel_rfl, ?_⟩
      go_simp
      exact ⟨_, rfl, Fr.refl _ _, rfl, trivial⟩
    · have h0 : u 0 = _ := hR 0 (by kernel_rfl)
      clear hR k1 k0 kM
      simp only [h0]
      refine .inl ⟨by kernel_rfl, ?_⟩
      go_simp
      exact ⟨_, rfl, Fr.refl _ _, rfl, trivial⟩
    · have h1 : u 1 = _ := hR 1 (by kernel_rfl)
      clear hR k1 k0 kM
      simp only [h1]
      refine .inl ⟨by kernel_rfl, ?_⟩
      exact wp_load_add _ _ rfl ad rfl PV _ (HC.out _ (E3.out.fr.then_ hf (fun i hi e => by have e' : i = g10 := e; have := E3.out.lo; have := E3.out.l1; omega))) Tryd.underlying24 rfl HPV.out ⟨_, rfl, Fr.refl _ _, rfl, trivial⟩
    · clear hR k1 k0 kM
      refine .inl ⟨by kernel_rfl, ?_⟩
      go_simp
      exact ⟨_, rfl, Fr.refl _ _, rfl, trivial⟩
    · have h3 : u 3 = _ := hR 3 (by kernel_rfl)
      clear hR k1 k0 kM
      simp only [h3]
      refine .inl ⟨by kernel_rfl, ?_⟩
      go_simp
      exact ⟨_, rfl, Fr.refl _ _, rfl, trivial⟩
    · have h4 : u 4 = _ := hR 4 (by kernel_rfl)
      clear hR k1 k0 kM
      simp only [h4]
      refine .inl ⟨by kernel_rfl, ?_⟩
      exact wp_load_add _ _ rfl ad rfl PV _ (HC.out _ (E3.out.fr.then_ hf (fun i hi e => by have e' : i = g10 := e; have := E3.out.lo; have := E3.out.l1; omega))) Tryd.underlying24 rfl HPV.out ⟨_, rfl, Fr.refl _ _, rfl, trivial⟩
    · have h2 : u 2 = _ := hR 2 (by kernel_rfl)
      clear hR
      simp only [h2]
      refine .inl ⟨by kernel_rfl, ?_⟩
      have hN : Blk w' g10 24 zero32c := by rw [stage, if_neg (by rw [k0 6 (by kernel_rfl)]; exact Bool.false_ne_true)] at kM; exact kM
      clear k1 k0 kM
      refine wp_storeBlk 24 (.tmp 10) (.tmp 29) rfl g10 PV.toArray rfl rfl _ _ hN DP.out.info DP.out.zero DP.out.one ?_
      intro w4 b4 f4
      exact ⟨_, rfl, f4, trivial, b4⟩
  · intro u w' hf hR kM
    have h5 : u 5 = _ := hR 5 (by omega)
    clear hR
    have k10 : Blk w' g10 24 PV.toArray := kM
    clear kM
    simp only [List.take_succ_cons, List.take_zero, List.map_cons, List.map_nil, puts, Act.put, List.setIfInBounds_toArray, List.set_cons_zero, List.set_cons_succ, List.drop_succ_cons, List.drop_zero, Nat.reduceAdd, Nat.zero_add, h5]
    have B11 := Lib.hid (E3.out.b11.fr hf (fun e => by have e' : g11 = g10 := e; have := E3.out.l1; have := E3.out.l2; omega))
    have B10 := Lib.hid k10
    have FF := Lib.hid hf
    clear k10 hf
    go_wp2_with (refine wpList_storeBlk rfl 24 (.tmp 11) _ rfl g11 PV.toArray rfl rfl _ _ B11.out DP.out.info DP.out.zero DP.out.one ?_)
    intro wz b5 f5
    have J11 := Lib.hid b5
    have J10 := Lib.hid (B10.out.fr f5 (fun e => by have e' : g10 = g11 := e; have := E3.out.l1; have := E3.out.l2; omega))
    have JF : Hid (Fr Nothing w wz) := (E3.out.fr.then_ FF.out (fun i hi e => by have e' : i = g10 := e; have := E3.out.lo; have := E3.out.l1; omega)).then_ f5 (fun i hi e => by have e' : i = g11 := e; have := E3.out.lo; have := E3.out.l1; have := E3.out.l2; omega)
    clear b5 f5
    go_wp2
    exact bodyPost_ret (results_cell_cell (fn := Tryd.f54) (p := 10) (q := 11) (ty := 24) Tryd.results54 _ wz _ _ 24 PV.toArray PV.toArray (0, 0) rfl rfl J10.out J11.out Tryd.underlying24 rfl DP.out.info DP.out.info) rfl ⟨rfl, JF.out⟩

set_option maxRecDepth 100000 in
set_option maxHeartbeats 2000000 in
theorem extend_left (n : Nat) (ih : ∀ m, m < n → ExtC m) (old : List UInt8) (m : Nat) (whole : Bool) (path : List (List UInt8)) (p1 : Nat) (A : Option Addr) (c : Nat) (S : Nat → Prop) (w : World) (hD : DigL w S A p1 path) (ho : old.length = 32) (h1 : 1 ≤ m) (hmn : m ≤ n) (hn : n ≤ 1048576)
    (hp : p1 = extLen m n whole) (hc : p1 ≤ c) (hcap : c ≤ 9223372036854775807) (hT : ShaTab w) (e : m ≠ n) (hm : m ≤ leftN n) :
    Calls Tryd.prog 54 #[digV old, .int .i64 m, .int .i64 n, .bool whole, .slice A p1 c] w (Same' w (.tuple #[digV (extD old m n whole path).1, digV (extD old m n whole path).2])) := by
  obtain ⟨ka, _, kc⟩ := leftN_bounds n (by omega) (by omega)
  have CS := Lib.hid (fun w => leftSize_any n w (by omega) (by omega))
  have hE := extLen_left whole e (by omega) (by omega) hm
  have hle := extLen_le n m whole h1 hmn (by omega)
  obtain ⟨p, hpp⟩ : ∃ p, p = extLen m (leftN n) whole := ⟨_, rfl⟩
  rw [← hpp] at hE
  have hl : path.length = p + 1 := by rw [hD.len, hp, hE]
  have hX := extD_left old whole path hl e (by omega) (by omega) hm
  obtain ⟨ad, last, rfl, _, hd, hd32, hcell⟩ := hD.at_ (k := p) (by omega)
  have hlast : path.getD p [] = last := by rw [List.getD_eq_getElem?_getD, hd]; rfl
  rw [hlast] at hX
  obtain ⟨l1, l2⟩ := extD_length (leftN n) old m whole (path.take p) (by omega) (by omega) (by omega) ho (by rw [List.length_take, hl, ← hpp]; omega) (fun d hd => hD.each d (List.mem_of_mem_take hd))
  have CI : Hid (∀ w', Fr Nothing w w' → Calls Tryd.prog 54 #[digV old, .int .i64 (m : Nat), .int .i64 ((leftN n) : Nat), .bool whole, .slice (some ad) p c] w' (Same' w' (.tuple #[digV (extD old m (leftN n) whole (path.take p)).1, digV (extD old m (leftN n) whole (path.take p)).2]))) :=
    fun w' hf => ih _ (by omega) old _ _ (path.take p) p (some ad) c S w' ((hD.take (by omega)).fr0 hf) ho (by omega) (by omega) (by omega) hpp (by omega) hcap (hT.fr0 hf)
  have HC : Hid (∀ w', Fr Nothing w w' → ∀ j v, (digC last)[j]? = some v → w'.cell? ((ad.add (p * 32)).add j) = some v) := fun w' hf j v hv => hf.cellSome (hcell j v hv) (fun x => x)
  generalize extD old m (leftN n) whole (path.take p) = r at *
  have CN : Hid (∀ w', Fr Nothing w w' → Calls Tryd.prog 17 #[digV r.2, digV last] w' (Same' w' (digV (nodeD r.2 last)))) := fun w' hf => Node_any _ _ l2 hd32 w' (hT.fr0 hf)
  rw [hX]
  have ln := nodeD_length r.2 last
  show Calls _ _ _ _ (Same' w (.tuple #[digV r.1, digV (nodeD r.2 last)]))
  generalize nodeD r.2 last = nn at *
  generalize r.1 = ra at *
  generalize r.2 = rb at *
  have DA : Hid (Dig (digC ra).toArray) := Dig.of l1
  have DB : Hid (Dig (digC rb).toArray) := Dig.of l2
  have DN : Hid (Dig (digC nn).toArray) := Dig.of ln
  have HOV : Hid ((Tryd.prog.info? 24).map (·.size) = some (digC old).length) := by rw [digC, List.length_map, ho]; exact infoD
  have HAV : Hid ((Tryd.prog.info? 24).map (·.size) = some (digC ra).length) := by rw [digC, List.length_map, l1]; exact infoD
  have HBV : Hid ((Tryd.prog.info? 24).map (·.size) = some (digC rb).length) := by rw [digC, List.length_map, l2]; exact infoD
  have HLV : Hid ((Tryd.prog.info? 24).map (·.size) = some (digC last).length) := by rw [digC, List.length_map, hd32]; exact infoD
  have AVs : Hid ((digC ra).toArray.size = 32) := DA.out.size
  have BVs : Hid ((digC rb).toArray.size = 32) := DB.out.size
  generalize leftN n = k at *
  have t1 : ((m : Int) == (n : Int)) = false := by rw [beq_eq_false_iff_ne]; omega
  have t2 : decide ((m : Int) ≤ (k : Int)) = true := decide_eq_true (by omega)
  have hp1 : p1 = p + 1 := by omega
  have s1 : (p1 : Int) - 1 = (p : Int) := by omega
  have b1 : (p : Int) ≤ (c : Int) := by omega
  have b2 : (p : Int) < (p1 : Int) := by omega
  have b3 : p < p1 := by omega
  have hp64 : p1 ≤ 1048576 := by omega
  clear hT hD hE hle hpp hl hX hlast hd hd32 hcell ih l1 l2 ln ho hp hp1
  unfold digV at *
  simp only [show ∀ l : List UInt8, l.map bvI = digC l from fun _ => rfl] at *
  generalize digC old = OV at *
  generalize digC ra = AV at *
  generalize digC rb = BV at *
  generalize digC last = LV at *
  generalize digC nn = NV at *
  go_enter Tryd.func54, Tryd.ntmps54
  go_wp2_with (refine wpList_boxBlk rfl 24 (.tmp 0) rfl _ rfl ?_)
  intro w1 n1
  have N1 := Lib.hid n1
  clear n1
  go_wp2_with (refine wpList_allocBlk rfl 24 rfl zero32 zvD zero32c rfl ?_)
  intro w2 n2
  have N2 := Lib.hid n2
  clear n2
  go_wp2_with (refine wpList_allocBlk rfl 24 rfl zero32 zvD zero32c rfl ?_)
  intro w3 n3
  have E3 := Lib.hid (Ext3.of N1.out N2.out n3)
  clear n3 N1 N2
  generalize w.heap.size = g5 at *
  generalize w1.heap.size = g10 at *
  generalize w2.heap.size = g11 at *
  go_wp2_with fail
  refine (CS.out _).mono ?_
  rintro e w' ⟨rfl, rfl⟩
  clear CS
  go_upto_region 7 with fail
  refine wp_region_st 12 (fun k => k = g10) [Is (.agg OV.toArray), Is (.int .i64 m), Is (.int .i64 k), Is (.bool whole), Is (.slice (some ad) p1 c), Is (.int .i64 p), Is (.slice (some ad) p c), Is (.tuple #[.agg AV.toArray, .agg BV.toArray]), Is (.tuple #[.agg AV.toArray, .agg BV.toArray]), Is (.agg AV.toArray), Is (.agg BV.toArray), fun _ _ => True] [(11, fun w' => Blk w' g10 24 AV.toArray)] (fun w' => Blk w' g10 24 zero32c) (fun _ _ => false) (by kernel_rfl) (by kernel_rfl) (by kernel_rfl) (by kernel_rfl) ⟨Is.stable _, Is.stable _, Is.stable _, Is.stable _, Is.stable _, Is.stable _, Is.stable _, Is.stable _, Is.stable _, Is.stable _, Is.stable _, fun _ _ _ _ _ h => h, trivial⟩ ⟨fun _ _ _ hf h => h.fr hf (fun x => x), trivial⟩ (fun _ _ _ hf h => h.fr hf (fun x => x)) E3.out.b10 ?_ ?_
  · refine ⟨fun u w' d hf hR k1 k0 kM => ?_, fun u w' d hf hR k1 k0 kM => ?_, fun u w' d hf hR k1 k0 kM => ?_, fun u w' d hf hR k1 k0 kM => ?_, fun u w' d hf hR k1 k0 kM => ?_, fun u w' d hf hR k1 k0 kM => ?_, fun u w' d hf hR k1 k0 kM => ?_, fun u w' d hf hR k1 k0 kM => ?_, fun u w' d hf hR k1 k0 kM => ?_, fun u w' d hf hR k1 k0 kM => ?_, fun u w' d hf hR k1 k0 kM => ?_, fun u w' d hf hR k1 k0 kM => ?_, trivial⟩
    all_goals simp only [List.take_succ_cons, List.take_zero, List.map_cons, List.map_nil, puts, Act.put, List.setIfInBounds_toArray, List.set_cons_zero, List.set_cons_succ, Nat.reduceAdd, Nat.zero_add]
    · clear hR k1 k0 kM
      refine .inl ⟨by kernel_rfl, ?_⟩
      exact wp_load_mid _ _ rfl g5 0 rfl OV _ (range_blk (E3.out.b5.fr hf (fun e => by have e' : g5 = g10 := e; have := E3.out.l1; have := E3.out.l2; omega))) Tryd.underlying24 rfl HOV.out ⟨_, rfl, Fr.refl _ _, rfl, trivial⟩
    · clear hR k1 k0 kM
      refine .inl ⟨by kernel_rfl, ?_⟩
      go_simp
      exact ⟨_, rfl, Fr.refl _ _, rfl, trivial⟩
    · clear hR k1 k0 kM
      refine .inl ⟨by kernel_rfl, ?_⟩
      go_simp
      exact ⟨_, rfl, Fr.refl _ _, rfl, trivial⟩
    · clear hR k1 k0 kM
      refine .inl ⟨by kernel_rfl, ?_⟩
      go_simp
      exact ⟨_, rfl, Fr.refl _ _, rfl, trivial⟩
    · clear hR k1 k0 kM
      refine .inl ⟨by kernel_rfl, ?_⟩
      go_simp
      exact ⟨_, rfl, Fr.refl _ _, rfl, trivial⟩
    · clear hR k1 k0 kM
      refine .inl ⟨by kernel_rfl, ?_⟩
      go_simp
      exact ⟨_, rfl, Fr.refl _ _, rfl, trivial⟩
    · have h4 : u 4 = _ := hR 4 (by kernel_rfl)
      have h5 : u 5 = _ := hR 5 (by kernel_rfl)
      clear hR k1 k0 kM
      simp only [h4, h5]
      refine .inl ⟨by kernel_rfl, ?_⟩
      go_simp
      exact ⟨_, rfl, Fr.refl _ _, rfl, trivial⟩
    · have h0 : u 0 = _ := hR 0 (by kernel_rfl)
      have h1 : u 1 = _ := hR 1 (by kernel_rfl)
      have h2 : u 2 = _ := hR 2 (by kernel_rfl)
      have h3 : u 3 = _ := hR 3 (by kernel_rfl)
      have h6 : u 6 = _ := hR 6 (by kernel_rfl)
      clear hR k1 k0 kM
      simp only [h0, h1, h2, h3, h6]
      refine .inl ⟨by kernel_rfl, ?_⟩
      go_simp
      refine (CI.out _ (E3.out.fr.then_ hf (fun i hi e => by have e' : i = g10 := e; have := E3.out.lo; have := E3.out.l1; omega))).mono ?_
      rintro e w4 ⟨rfl, f4⟩
      exact ⟨_, rfl, f4.weak, rfl, trivial⟩
    · have h7 : u 7 = _ := hR 7 (by kernel_rfl)
      clear hR k1 k0 kM
      simp only [h7]
      refine .inl ⟨by kernel_rfl, ?_⟩
      go_simp
      exact ⟨_, rfl, Fr.refl _ _, rfl, trivial⟩
    · have h8 : u 8 = _ := hR 8 (by kernel_rfl)
      clear hR k1 k0 kM
      simp only [h8]
      refine .inl ⟨by kernel_rfl, ?_⟩
      go_simp
      exact ⟨_, rfl, Fr.refl _ _, rfl, trivial⟩
    · have h8 : u 8 = _ := hR 8 (by kernel_rfl)
      clear hR k1 k0 kM
      simp only [h8]
      refine .inl ⟨by kernel_rfl, ?_⟩
      go_simp
      exact ⟨_, rfl, Fr.refl _ _, rfl, trivial⟩
    · have h9 : u 9 = _ := hR 9 (by kernel_rfl)
      clear hR
      simp only [h9]
      refine .inl ⟨by kernel_rfl, ?_⟩
      have hN : Blk w' g10 24 zero32c := by rw [stage, if_neg (by rw [k0 11 (by kernel_rfl)]; exact Bool.false_ne_true)] at kM; exact kM
      clear k1 k0 kM
      refine wp_storeBlk 24 (.tmp 10) (.tmp 50) rfl g10 AV.toArray rfl rfl _ _ hN DA.out.info DA.out.zero DA.out.one ?_
      intro w4 b4 f4
      exact ⟨_, rfl, f4, trivial, b4⟩
  · intro u w' hf hR kM
    have h10 : u 10 = _ := hR 10 (by omega)
    clear hR
    have k10 : Blk w' g10 24 AV.toArray := kM
    clear kM
    simp only [List.take_succ_cons, List.take_zero, List.map_cons, List.map_nil, puts, Act.put, List.setIfInBounds_toArray, List.set_cons_zero, List.set_cons_succ, List.drop_succ_cons, List.drop_zero, Nat.reduceAdd, Nat.zero_add, h10]
    have B11 := Lib.hid (E3.out.b11.fr hf (fun e => by have e' : g11 = g10 := e; have := E3.out.l1; have := E3.out.l2; omega))
    have B10 := Lib.hid k10
    have FF := Lib.hid hf
    clear k10 hf
    go_wp2_with (refine wpList_storeBlk rfl 24 (.tmp 11) _ rfl g11 BV.toArray rfl rfl _ _ B11.out DB.out.info DB.out.zero DB.out.one ?_)
    intro wz b5 f5
    have J11 := Lib.hid b5
    have J10 := Lib.hid (B10.out.fr f5 (fun e => by have e' : g10 = g11 := e; have := E3.out.l1; have := E3.out.l2; omega))
    have E4 := Lib.hid (E3.out.stored FF.out B10.out f5 b5)
    clear b5 f5 E3 FF B10 B11 J10 J11 CI
    go_upto_region 8 with fail
    refine wp_region_st 8 (fun k => k = g10) [Is (.agg AV.toArray), Is (.agg BV.toArray), Is (.slice (some ad) p1 c), Is (.int .i64 p), Is (.pointer (some (ad.add (p * 32)))), Is (.agg LV.toArray), Is (.agg NV.toArray), fun _ _ => True] [(7, fun w' => Blk w' g10 24 AV.toArray)] (fun w' => Blk w' g10 24 AV.toArray) (fun i j => i == 0 && j == 7) (by kernel_rfl) (by kernel_rfl) (by kernel_rfl) (by kernel_rfl) ⟨Is.stable _, Is.stable _, Is.stable _, Is.stable _, Is.stable _, Is.stable _, Is.stable _, fun _ _ _ _ _ h => h, trivial⟩ ⟨fun _ _ _ hf h => h.fr hf (fun x => x), trivial⟩ (fun _ _ _ hf h => h.fr hf (fun x => x)) E4.out.b10 ?_ ?_
    · refine ⟨fun u w' d hf hR k1 k0 kM => ?_, fun u w' d hf hR k1 k0 kM => ?_, fun u w' d hf hR k1 k0 kM => ?_, fun u w' d hf hR k1 k0 kM => ?_, fun u w' d hf hR k1 k0 kM => ?_, fun u w' d hf hR k1 k0 kM => ?_, fun u w' d hf hR k1 k0 kM => ?_, fun u w' d hf hR k1 k0 kM => ?_, trivial⟩
      all_goals simp only [List.take_succ_cons, List.take_zero, List.map_cons, List.map_nil, puts, Act.put, List.setIfInBounds_toArray, List.set_cons_zero, List.set_cons_succ, Nat.reduceAdd, Nat.zero_add]
      · clear hR
        refine .inl ⟨by kernel_rfl, ?_⟩
        have hN : Blk w' g10 24 AV.toArray := by rw [stage, if_neg (by rw [k0 7 (by kernel_rfl)]; exact Bool.false_ne_true)] at kM; exact kM
        clear k1 k0 kM
        exact wp_load_mid _ _ rfl g10 0 rfl AV _ (range_blk (hN)) Tryd.underlying24 rfl HAV.out ⟨_, rfl, Fr.refl _ _, rfl, trivial⟩
      · clear hR k1 k0 kM
        refine .inl ⟨by kernel_rfl, ?_⟩
        exact wp_load_mid _ _ rfl g11 0 rfl BV _ (range_blk (E4.out.b11.fr hf (fun e => by have e' : g11 = g10 := e; have := E4.out.l1; have := E4.out.l2; omega))) Tryd.underlying24 rfl HBV.out ⟨_, rfl, Fr.refl _ _, rfl, trivial⟩
      · clear hR k1 k0 kM
        refine .inl ⟨by kernel_rfl, ?_⟩
        go_simp
        exact ⟨_, rfl, Fr.refl _ _, rfl, trivial⟩
      · clear hR k1 k0 kM
        refine .inl ⟨by kernel_rfl, ?_⟩
        go_simp
        exact ⟨_, rfl, Fr.refl _ _, rfl, trivial⟩
      · have h2 : u 2 = _ := hR 2 (by kernel_rfl)
        have h3 : u 3 = _ := hR 3 (by kernel_rfl)
        clear hR k1 k0 kM
        simp only [h2, h3]
        refine .inl ⟨by kernel_rfl, ?_⟩
        go_simp
        exact ⟨_, rfl, Fr.refl _ _, rfl, trivial⟩
      · have h4 : u 4 = _ := hR 4 (by kernel_rfl)
        clear hR k1 k0 kM
        simp only [h4]
        refine .inl ⟨by kernel_rfl, ?_⟩
        exact wp_load_add _ _ rfl (ad.add (p * 32)) rfl LV _ (HC.out _ (E4.out.fr.then_ hf (fun i hi e => by have e' : i = g10 := e; have := E4.out.lo; have := E4.out.l1; omega))) Tryd.underlying24 rfl HLV.out ⟨_, rfl, Fr.refl _ _, rfl, trivial⟩
      · have h1 : u 1 = _ := hR 1 (by kernel_rfl)
        have h5 : u 5 = _ := hR 5 (by kernel_rfl)
        clear hR k1 k0 kM
        simp only [h1, h5]
        refine .inl ⟨by kernel_rfl, ?_⟩
        go_simp
        refine (CN.out _ (E4.out.fr.then_ hf (fun i hi e => by have e' : i = g10 := e; have := E4.out.lo; have := E4.out.l1; omega))).mono ?_
        rintro e w4 ⟨rfl, f4⟩
        exact ⟨_, rfl, f4.weak, rfl, trivial⟩
      · have h0 : u 0 = _ := hR 0 (by kernel_rfl)
        clear hR
        simp only [h0]
        refine .inl ⟨by kernel_rfl, ?_⟩
        have hN : Blk w' g10 24 AV.toArray := by rw [stage, if_neg (by rw [k0 7 (by kernel_rfl)]; exact Bool.false_ne_true)] at kM; exact kM
        clear k1 k0 kM
        refine wp_storeBlk 24 (.tmp 10) (.tmp 52) rfl g10 AV.toArray rfl rfl _ _ hN DA.out.info (AVs.out.trans DA.out.size.symm) DA.out.one ?_
        intro w4 b4 f4
        exact ⟨_, rfl, f4, trivial, b4⟩
    · intro u w' hf hR kM
      have h6 : u 6 = _ := hR 6 (by omega)
      clear hR
      have k10 : Blk w' g10 24 AV.toArray := kM
      clear kM
      simp only [List.take_succ_cons, List.take_zero, List.map_cons, List.map_nil, puts, Act.put, List.setIfInBounds_toArray, List.set_cons_zero, List.set_cons_succ, List.drop_succ_cons, List.drop_zero, Nat.reduceAdd, Nat.zero_add, h6]
      have B11 := Lib.hid (E4.out.b11.fr hf (fun e => by have e' : g11 = g10 := e; have := E4.out.l1; have := E4.out.l2; omega))
      have B10 := Lib.hid k10
      have FF := Lib.hid hf
      clear k10 hf
      go_wp2_with (refine wpList_storeBlk rfl 24 (.tmp 11) _ rfl g11 NV.toArray rfl rfl _ _ B11.out DN.out.info (BVs.out.trans DN.out.size.symm) DN.out.one ?_)
      intro wz b5 f5
      have J11 := Lib.hid b5
      have J10 := Lib.hid (B10.out.fr f5 (fun e => by have e' : g10 = g11 := e; have := E4.out.l1; have := E4.out.l2; omega))
      have JF : Hid (Fr Nothing w wz) := (E4.out.fr.then_ FF.out (fun i hi e => by have e' : i = g10 := e; have := E4.out.lo; have := E4.out.l1; omega)).then_ f5 (fun i hi e => by have e' : i = g11 := e; have := E4.out.lo; have := E4.out.l1; have := E4.out.l2; omega)
      clear b5 f5
      go_wp2
      exact bodyPost_ret (results_cell_cell (fn := Tryd.f54) (p := 10) (q := 11) (ty := 24) Tryd.results54 _ wz _ _ 24 AV.toArray NV.toArray (0, 0) rfl rfl J10.out J11.out Tryd.underlying24 rfl DA.out.info DN.out.info) rfl ⟨rfl, JF.out⟩

set_option maxRecDepth 100000 in
set_option maxHeartbeats 2000000 in
theorem extend_right (n : Nat) (ih : ∀ m, m < n → ExtC m) (old : List UInt8) (m : Nat) (whole : Bool) (path : List (List UInt8)) (p1 : Nat) (A : Option Addr) (c : Nat) (S : Nat → Prop) (w : World) (hD : DigL w S A p1 path) (ho : old.length = 32) (h1 : 1 ≤ m) (hmn : m ≤ n) (hn : n ≤ 1048576)
    (hp : p1 = extLen m n whole) (hc : p1 ≤ c) (hcap : c ≤ 9223372036854775807) (hT : ShaTab w) (e : m ≠ n) (hm : ¬ m ≤ leftN n) :
    Calls Tryd.prog 54 #[digV old, .int .i64 m, .int .i64 n, .bool whole, .slice A p1 c] w (Same' w (.tuple #[digV (extD old m n whole path).1, digV (extD old m n whole path).2])) := by
  obtain ⟨ka, _, kc⟩ := leftN_bounds n (by omega) (by omega)
  have CS := Lib.hid (fun w => leftSize_any n w (by omega) (by omega))
  have hE := extLen_right whole e (by omega) (by omega) hm
  have hle := extLen_le n m whole h1 hmn (by omega)
  obtain ⟨p, hpp⟩ : ∃ p, p = extLen (m - leftN n) (n - leftN n) false := ⟨_, rfl⟩
  rw [← hpp] at hE
  have hl : path.length = p + 1 := by rw [hD.len, hp, hE]
  have hX := extD_right old whole path hl e (by omega) (by omega) hm
  obtain ⟨ad, last, rfl, _, hd, hd32, hcell⟩ := hD.at_ (k := p) (by omega)
  have hlast : path.getD p [] = last := by rw [List.getD_eq_getElem?_getD, hd]; rfl
  rw [hlast] at hX
  obtain ⟨l1, l2⟩ := extD_length (n - leftN n) old (m - leftN n) false (path.take p) (by omega) (by omega) (by omega) ho (by rw [List.length_take, hl, ← hpp]; omega) (fun d hd => hD.each d (List.mem_of_mem_take hd))
  have CI : Hid (∀ w', Fr Nothing w w' → Calls Tryd.prog 54 #[digV old, .int .i64 ((m - leftN n) : Nat), .int .i64 ((n - leftN n) : Nat), .bool false, .slice (some ad) p c] w' (Same' w' (.tuple #[digV (extD old (m - leftN n) (n - leftN n) false (path.take p)).1, digV (extD old (m - leftN n) (n - leftN n) false (path.take p)).2]))) :=
    fun w' hf => ih _ (by omega) old _ _ (path.take p) p (some ad) c S w' ((hD.take (by omega)).fr0 hf) ho (by omega) (by omega) (by omega) hpp (by omega) hcap (hT.fr0 hf)
  have HC : Hid (∀ w', Fr Nothing w w' → ∀ j v, (digC last)[j]? = some v → w'.cell? ((ad.add (p * 32)).add j) = some v) := fun w' hf j v hv => hf.cellSome (hcell j v hv) (fun x => x)
  generalize extD old (m - leftN n) (n - leftN n) false (path.take p) = r at *
  have CN : Hid (∀ w', Fr Nothing w w' → Calls Tryd.prog 17 #[digV last, digV r.1] w' (Same' w' (digV (nodeD last r.1)))) := fun w' hf => Node_any _ _ hd32 l1 w' (hT.fr0 hf)
  have CM : Hid (∀ w', Fr Nothing w w' → Calls Tryd.prog 17 #[digV last, digV r.2] w' (Same' w' (digV (nodeD last r.2)))) := fun w' hf => Node_any _ _ hd32 l2 w' (hT.fr0 hf)
  rw [hX]
  have ln := nodeD_length last r.1
  have lm := nodeD_length last r.2
  show Calls _ _ _ _ (Same' w (.tuple #[digV (nodeD last r.1), digV (nodeD last r.2)]))
  generalize nodeD last r.1 = nn at *
  generalize nodeD last r.2 = mm at *
  generalize r.1 = ra at *
  generalize r.2 = rb at *
  have DA : Hid (Dig (digC ra).toArray) := Dig.of l1
  have DB : Hid (Dig (digC rb).toArray) := Dig.of l2
  have DN : Hid (Dig (digC nn).toArray) := Dig.of ln
  have DM : Hid (Dig (digC mm).toArray) := Dig.of lm
  have HOV : Hid ((Tryd.prog.info? 24).map (·.size) = some (digC old).length) := by rw [digC, List.length_map, ho]; exact infoD
  have HAV : Hid ((Tryd.prog.info? 24).map (·.size) = some (digC ra).length) := by rw [digC, List.length_map, l1]; exact infoD
  have HBV : Hid ((Tryd.prog.info? 24).map (·.size) = some (digC rb).length) := by rw [digC, List.length_map, l2]; exact infoD
  have HLV : Hid ((Tryd.prog.info? 24).map (·.size) = some (digC last).length) := by rw [digC, List.length_map, hd32]; exact infoD
  have AVs : Hid ((digC ra).toArray.size = 32) := DA.out.size
  have BVs : Hid ((digC rb).toArray.size = 32) := DB.out.size
  generalize leftN n = k at *
  have t1 : ((m : Int) == (n : Int)) = false := by rw [beq_eq_false_iff_ne]; omega
  have t2 : decide ((m : Int) ≤ (k : Int)) = false := decide_eq_false (by omega)
  have hp1 : p1 = p + 1 := by omega
  have s1 : (p1 : Int) - 1 = (p : Int) := by omega
  have b1 : (p : Int) ≤ (c : Int) := by omega
  have b2 : (p : Int) < (p1 : Int) := by omega
  have b3 : p < p1 := by omega
  obtain ⟨m', hm'⟩ : ∃ m' : Nat, m' = m - k := ⟨_, rfl⟩
  obtain ⟨n', hn'⟩ : ∃ n' : Nat, n' = n - k := ⟨_, rfl⟩
  rw [← hm', ← hn'] at CI
  have s2 : (m : Int) - (k : Int) = (m' : Int) := by omega
  have s3 : (n : Int) - (k : Int) = (n' : Int) := by omega
  have c1 : m' ≤ 1048576 := by omega
  have c2 : n' ≤ 1048576 := by omega
  have e1 : IntKind.i64.wrap (m' : Int) = (m' : Int) := IntWalk.i64_in _ (by omega)
  have e2 : IntKind.i64.wrap (n' : Int) = (n' : Int) := IntWalk.i64_in _ (by omega)
  clear hm' hn'
  have hp64 : p1 ≤ 1048576 := by omega
  clear hT hD hE hle hpp hl hX hlast hd hd32 hcell ih l1 l2 ln ho hp hp1 lm
  unfold digV at *
  simp only [show ∀ l : List UInt8, l.map bvI = digC l from fun _ => rfl] at *
  generalize digC old = OV at *
  generalize digC ra = AV at *
  generalize digC rb = BV at *
  generalize digC last = LV at *
  generalize digC nn = NV at *
  generalize digC mm = MV at *
  go_enter Tryd.func54, Tryd.ntmps54
  go_wp2_with (refine wpList_boxBlk rfl 24 (.tmp 0) rfl _ rfl ?_)
  intro w1 n1
  have N1 := Lib.hid n1
  clear n1
  go_wp2_with (refine wpList_allocBlk rfl 24 rfl zero32 zvD zero32c rfl ?_)
  intro w2 n2
  have N2 := Lib.hid n2
  clear n2
  go_wp2_with (refine wpList_allocBlk rfl 24 rfl zero32 zvD zero32c rfl ?_)
  intro w3 n3
  have E3 := Lib.hid (Ext3.of N1.out N2.out n3)
  clear n3 N1 N2
  generalize w.heap.size = g5 at *
  generalize w1.heap.size = g10 at *
  generalize w2.heap.size = g11 at *
  go_wp2_with fail
  refine (CS.out _).mono ?_
  rintro e w' ⟨rfl, rfl⟩
  clear CS
  go_upto_region 9 with fail
  refine wp_region_st 15 (fun k => k = g10) [Is (.agg OV.toArray), Is (.int .i64 m), Is (.int .i64 k), Is (.int .i64 m'), Is (.int .i64 n), Is (.int .i64 k), Is (.int .i64 n'), Is (.slice (some ad) p1 c), Is (.int .i64 p), Is (.slice (some ad) p c), Is (.tuple #[.agg AV.toArray, .agg BV.toArray]), Is (.tuple #[.agg AV.toArray, .agg BV.toArray]), Is (.agg AV.toArray), Is (.agg BV.toArray), fun _ _ => True] [(14, fun w' => Blk w' g10 24 AV.toArray)] (fun w' => Blk w' g10 24 zero32c) (fun _ _ => false) (by kernel_rfl) (by kernel_rfl) (by kernel_rfl) (by kernel_rfl) ⟨Is.stable _, Is.stable _, Is.stable _, Is.stable _, Is.stable _, Is.stable _, Is.stable _, Is.stable _, Is.stable _, Is.stable _, Is.stable _, Is.stable _, Is.stable _, Is.stable _, fun _ _ _ _ _ h => h, trivial⟩ ⟨fun _ _ _ hf h => h.fr hf (fun x => x), trivial⟩ (fun _ _ _ hf h => h.fr hf (fun x => x)) E3.out.b10 ?_ ?_
  · refine ⟨fun u w' d hf hR k1 k0 kM => ?_, fun u w' d hf hR k1 k0 kM => ?_, fun u w' d hf hR k1 k0 kM => ?_, fun u w' d hf hR k1 k0 kM => ?_, fun u w' d hf hR k1 k0 kM => ?_, fun u w' d hf hR k1 k0 kM => ?_, fun u w' d hf hR k1 k0 kM => ?_, fun u w' d hf hR k1 k0 kM => ?_, fun u w' d hf hR k1 k0 kM => ?_, fun u w' d hf hR k1 k0 kM => ?_, fun u w' d hf hR k1 k0 kM => ?_, fun u w' d hf hR k1 k0 kM => ?_, fun u w' d hf hR k1 k0 kM => ?_, fun u w' d hf hR k1 k0 kM => ?_, fun u w' d hf hR k1 k0 kM => ?_, trivial⟩
    all_goals simp only [List.take_succ_cons, List.take_zero, List.map_cons, List.map_nil, puts, Act.put, List.setIfInBounds_toArray, List.set_cons_zero, List.set_cons_succ, Nat.reduceAdd, Nat.zero_add]
    · clear hR k1 k0 kM
      refine .inl ⟨by kernel_rfl, ?_⟩
      exact wp_load_mid _ _ rfl g5 0 rfl OV _ (range_blk (E3.out.b5.fr hf (fun e => by have e' : g5 = g10 := e; have := E3.out.l1; have := E3.out.l2; omega))) Tryd.underlying24 rfl HOV.out ⟨_, rfl, Fr.refl _ _, rfl, trivial⟩
    · clear hR k1 k0 kM
      refine .inl ⟨by kernel_rfl, ?_⟩
      go_simp
      exact ⟨_, rfl, Fr.refl _ _, rfl, trivial⟩
    · clear hR k1 k0 kM
      refine .inl ⟨by kernel_rfl, ?_⟩
      go_simp
      exact ⟨_, rfl, Fr.refl _ _, rfl, trivial⟩
    · have h1 : u 1 = _ := hR 1 (by kernel_rfl)
      have h2 : u 2 = _ := hR 2 (by kernel_rfl)
      clear hR k1 k0 kM
      simp only [h1, h2]
      refine .inl ⟨by kernel_rfl, ?_⟩
      go_simp
      exact ⟨_, rfl, Fr.refl _ _, rfl, trivial⟩
    · clear hR k1 k0 kM
      refine .inl ⟨by kernel_rfl, ?_⟩
      go_simp
      exact ⟨_, rfl, Fr.refl _ _, rfl, trivial⟩
    · clear hR k1 k0 kM
      refine .inl ⟨by kernel_rfl, ?_⟩
      go_simp
      exact ⟨_, rfl, Fr.refl _ _, rfl, trivial⟩
    · have h4 : u 4 = _ := hR 4 (by kernel_rfl)
      have h5 : u 5 = _ := hR 5 (by kernel_rfl)
      clear hR k1 k0 kM
      simp only [h4, h5]
      refine .inl ⟨by kernel_rfl, ?_⟩
      go_simp
      exact ⟨_, rfl, Fr.refl _ _, rfl, trivial⟩
    · clear hR k1 k0 kM
      refine .inl ⟨by kernel_rfl, ?_⟩
      go_simp
      exact ⟨_, rfl, Fr.refl _ _, rfl, trivial⟩
    · clear hR k1 k0 kM
      refine .inl ⟨by kernel_rfl, ?_⟩
      go_simp
      exact ⟨_, rfl, Fr.refl _ _, rfl, trivial⟩
    · have h7 : u 7 = _ := hR 7 (by kernel_rfl)
      have h8 : u 8 = _ := hR 8 (by kernel_rfl)
      clear hR k1 k0 kM
      simp only [h7, h8]
      refine .inl ⟨by kernel_rfl, ?_⟩
      go_simp
      exact ⟨_, rfl, Fr.refl _ _, rfl, trivial⟩
    · have h0 : u 0 = _ := hR 0 (by kernel_rfl)
      have h3 : u 3 = _ := hR 3 (by kernel_rfl)
      have h6 : u 6 = _ := hR 6 (by kernel_rfl)
      have h9 : u 9 = _ := hR 9 (by kernel_rfl)
      clear hR k1 k0 kM
      simp only [h0, h3, h6, h9]
      refine .inl ⟨by kernel_rfl, ?_⟩
      go_simp
      refine (CI.out _ (E3.out.fr.then_ hf (fun i hi e => by have e' : i = g10 := e; have := E3.out.lo; have := E3.out.l1; omega))).mono ?_
      rintro e w4 ⟨rfl, f4⟩
      exact ⟨_, rfl, f4.weak, rfl, trivial⟩
    · have h10 : u 10 = _ := hR 10 (by kernel_rfl)
      clear hR k1 k0 kM
      simp only [h10]
      refine .inl ⟨by kernel_rfl, ?_⟩
      go_simp
      exact ⟨_, rfl, Fr.refl _ _, rfl, trivial⟩
    · have h11 : u 11 = _ := hR 11 (by kernel_rfl)
      clear hR k1 k0 kM
      simp only [h11]
      refine .inl ⟨by kernel_rfl, ?_⟩
      go_simp
      exact ⟨_, rfl, Fr.refl _ _, rfl, trivial⟩
    · have h11 : u 11 = _ := hR 11 (by kernel_rfl)
      clear hR k1 k0 kM
      simp only [h11]
      refine .inl ⟨by kernel_rfl, ?_⟩
      go_simp
      exact ⟨_, rfl, Fr.refl _ _, rfl, trivial⟩
    · have h12 : u 12 = _ := hR 12 (by kernel_rfl)
      clear hR
      simp only [h12]
      refine .inl ⟨by kernel_rfl, ?_⟩
      have hN : Blk w' g10 24 zero32c := by rw [stage, if_neg (by rw [k0 14 (by kernel_rfl)]; exact Bool.false_ne_true)] at kM; exact kM
      clear k1 k0 kM
      refine wp_storeBlk 24 (.tmp 10) (.tmp 71) rfl g10 AV.toArray rfl rfl _ _ hN DA.out.info DA.out.zero DA.out.one ?_
      intro w4 b4 f4
      exact ⟨_, rfl, f4, trivial, b4⟩
  · intro u w' hf hR kM
    have h13 : u 13 = _ := hR 13 (by omega)
    clear hR
    have k10 : Blk w' g10 24 AV.toArray := kM
    clear kM
    simp only [List.take_succ_cons, List.take_zero, List.map_cons, List.map_nil, puts, Act.put, List.setIfInBounds_toArray, List.set_cons_zero, List.set_cons_succ, List.drop_succ_cons, List.drop_zero, Nat.reduceAdd, Nat.zero_add, h13]
    have B11 := Lib.hid (E3.out.b11.fr hf (fun e => by have e' : g11 = g10 := e; have := E3.out.l1; have := E3.out.l2; omega))
    have B10 := Lib.hid k10
    have FF := Lib.hid hf
    clear k10 hf
    go_wp2_with (refine wpList_storeBlk rfl 24 (.tmp 11) _ rfl g11 BV.toArray rfl rfl _ _ B11.out DB.out.info DB.out.zero DB.out.one ?_)
    intro wz b5 f5
    have J11 := Lib.hid b5
    have J10 := Lib.hid (B10.out.fr f5 (fun e => by have e' : g10 = g11 := e; have := E3.out.l1; have := E3.out.l2; omega))
    have E4 := Lib.hid (E3.out.stored FF.out B10.out f5 b5)
    clear b5 f5 E3 FF B10 B11 J10 J11 CI
    go_upto_region 10 with fail
    refine wp_region_st 13 (fun k => k = g10) [Is (.slice (some ad) p1 c), Is (.int .i64 p), Is (.pointer (some (ad.add (p * 32)))), Is (.agg LV.toArray), Is (.agg AV.toArray), Is (.agg NV.toArray), Is (.slice (some ad) p1 c), Is (.int .i64 p), Is (.pointer (some (ad.add (p * 32)))), Is (.agg LV.toArray), Is (.agg BV.toArray), Is (.agg MV.toArray), fun _ _ => True] [(12, fun w' => Blk w' g10 24 NV.toArray)] (fun w' => Blk w' g10 24 AV.toArray) (fun i j => i == 4 && j == 12) (by kernel_rfl) (by kernel_rfl) (by kernel_rfl) (by kernel_rfl) ⟨Is.stable _, Is.stable _, Is.stable _, Is.stable _, Is.stable _, Is.stable _, Is.stable _, Is.stable _, Is.stable _, Is.stable _, Is.stable _, Is.stable _, fun _ _ _ _ _ h => h, trivial⟩ ⟨fun _ _ _ hf h => h.fr hf (fun x => x), trivial⟩ (fun _ _ _ hf h => h.fr hf (fun x => x)) E4.out.b10 ?_ ?_
    · refine ⟨fun u w' d hf hR k1 k0 kM => ?_, fun u w' d hf hR k1 k0 kM => ?_, fun u w' d hf hR k1 k0 kM => ?_, fun u w' d hf hR k1 k0 kM => ?_, fun u w' d hf hR k1 k0 kM => ?_, fun u w' d hf hR k1 k0 kM => ?_, fun u w' d hf hR k1 k0 kM => ?_, fun u w' d hf hR k1 k0 kM => ?_, fun u w' d hf hR k1 k0 kM => ?_, fun u w' d hf hR k1 k0 kM => ?_, fun u w' d hf hR k1 k0 kM => ?_, fun u w' d hf hR k1 k0 kM => ?_, fun u w' d hf hR k1 k0 kM => ?_, trivial⟩
      all_goals simp only [List.take_succ_cons, List.take_zero, List.map_cons, List.map_nil, puts, Act.put, List.setIfInBounds_toArray, List.set_cons_zero, List.set_cons_succ, Nat.reduceAdd, Nat.zero_add]
      · clear hR k1 k0 kM
        refine .inl ⟨by kernel_rfl, ?_⟩
        go_simp
        exact ⟨_, rfl, Fr.refl _ _, rfl, trivial⟩
      · clear hR k1 k0 kM
        refine .inl ⟨by kernel_rfl, ?_⟩
        go_simp
        exact ⟨_, rfl, Fr.refl _ _, rfl, trivial⟩
      · have h0 : u 0 = _ := hR 0 (by kernel_rfl)
        have h1 : u 1 = _ := hR 1 (by kernel_rfl)
        clear hR k1 k0 kM
        simp only [h0, h1]
        refine .inl ⟨by kernel_rfl, ?_⟩
        go_simp
        exact ⟨_, rfl, Fr.refl _ _, rfl, trivial⟩
      · have h2 : u 2 = _ := hR 2 (by kernel_rfl)
        clear hR k1 k0 kM
        simp only [h2]
        refine .inl ⟨by kernel_rfl, ?_⟩
        exact wp_load_add _ _ rfl (ad.add (p * 32)) rfl LV _ (HC.out _ (E4.out.fr.then_ hf (fun i hi e => by have e' : i = g10 := e; have := E4.out.lo; have := E4.out.l1; omega))) Tryd.underlying24 rfl HLV.out ⟨_, rfl, Fr.refl _ _, rfl, trivial⟩
      · clear hR
        refine .inl ⟨by kernel_rfl, ?_⟩
        have hN : Blk w' g10 24 AV.toArray := by rw [stage, if_neg (by rw [k0 12 (by kernel_rfl)]; exact Bool.false_ne_true)] at kM; exact kM
        clear k1 k0 kM
        exact wp_load_mid _ _ rfl g10 0 rfl AV _ (range_blk (hN)) Tryd.underlying24 rfl HAV.out ⟨_, rfl, Fr.refl _ _, rfl, trivial⟩
      · have h3 : u 3 = _ := hR 3 (by kernel_rfl)
        have h4 : u 4 = _ := hR 4 (by kernel_rfl)
        clear hR k1 k0 kM
        simp only [h3, h4]
        refine .inl ⟨by kernel_rfl, ?_⟩
        go_simp
        refine (CN.out _ (E4.out.fr.then_ hf (fun i hi e => by have e' : i = g10 := e; have := E4.out.lo; have := E4.out.l1; omega))).mono ?_
        rintro e w4 ⟨rfl, f4⟩
        exact ⟨_, rfl, f4.weak, rfl, trivial⟩
      · clear hR k1 k0 kM
        refine .inl ⟨by kernel_rfl, ?_⟩
        go_simp
        exact ⟨_, rfl, Fr.refl _ _, rfl, trivial⟩
      · clear hR k1 k0 kM
        refine .inl ⟨by kernel_rfl, ?_⟩
        go_simp
        exact ⟨_, rfl, Fr.refl _ _, rfl, trivial⟩
      · have h6 : u 6 = _ := hR 6 (by kernel_rfl)
        have h7 : u 7 = _ := hR 7 (by kernel_rfl)
        clear hR k1 k0 kM
        simp only [h6, h7]
        refine .inl ⟨by kernel_rfl, ?_⟩
        go_simp
        exact ⟨_, rfl, Fr.refl _ _, rfl, trivial⟩
      · have h8 : u 8 = _ := hR 8 (by kernel_rfl)
        clear hR k1 k0 kM
        simp only [h8]
        refine .inl ⟨by kernel_rfl, ?_⟩
        exact wp_load_add _ _ rfl (ad.add (p * 32)) rfl LV _ (HC.out _ (E4.out.fr.then_ hf (fun i hi e => by have e' : i = g10 := e; have := E4.out.lo; have := E4.out.l1; omega))) Tryd.underlying24 rfl HLV.out ⟨_, rfl, Fr.refl _ _, rfl, trivial⟩
      · clear hR k1 k0 kM
        refine .inl ⟨by kernel_rfl, ?_⟩
        exact wp_load_mid _ _ rfl g11 0 rfl BV _ (range_blk (E4.out.b11.fr hf (fun e => by have e' : g11 = g10 := e; have := E4.out.l1; have := E4.out.l2; omega))) Tryd.underlying24 rfl HBV.out ⟨_, rfl, Fr.refl _ _, rfl, trivial⟩
      · have h9 : u 9 = _ := hR 9 (by kernel_rfl)
        have h10 : u 10 = _ := hR 10 (by kernel_rfl)
        clear hR k1 k0 kM
        simp only [h9, h10]
        refine .inl ⟨by kernel_rfl, ?_⟩
        go_simp
        refine (CM.out _ (E4.out.fr.then_ hf (fun i hi e => by have e' : i = g10 := e; have := E4.out.lo; have := E4.out.l1; omega))).mono ?_
        rintro e w4 ⟨rfl, f4⟩
        exact ⟨_, rfl, f4.weak, rfl, trivial⟩
      · have h5 : u 5 = _ := hR 5 (by kernel_rfl)
        clear hR
        simp only [h5]
        refine .inl ⟨by kernel_rfl, ?_⟩
        have hN : Blk w' g10 24 AV.toArray := by rw [stage, if_neg (by rw [k0 12 (by kernel_rfl)]; exact Bool.false_ne_true)] at kM; exact kM
        clear k1 k0 kM
        refine wp_storeBlk 24 (.tmp 10) (.tmp 78) rfl g10 NV.toArray rfl rfl _ _ hN DN.out.info (AVs.out.trans DN.out.size.symm) DN.out.one ?_
        intro w4 b4 f4
        exact ⟨_, rfl, f4, trivial, b4⟩
    · intro u w' hf hR kM
      have h11 : u 11 = _ := hR 11 (by omega)
      clear hR
      have k10 : Blk w' g10 24 NV.toArray := kM
      clear kM
      simp only [List.take_succ_cons, List.take_zero, List.map_cons, List.map_nil, puts, Act.put, List.setIfInBounds_toArray, List.set_cons_zero, List.set_cons_succ, List.drop_succ_cons, List.drop_zero, Nat.reduceAdd, Nat.zero_add, h11]
      have B11 := Lib.hid (E4.out.b11.fr hf (fun e => by have e' : g11 = g10 := e; have := E4.out.l1; have := E4.out.l2; omega))
      have B10 := Lib.hid k10
      have FF := Lib.hid hf
      clear k10 hf
      go_wp2_with (refine wpList_storeBlk rfl 24 (.tmp 11) _ rfl g11 MV.toArray rfl rfl _ _ B11.out DM.out.info (BVs.out.trans DM.out.size.symm) DM.out.one ?_)
      intro wz b5 f5
      have J11 := Lib.hid b5
      have J10 := Lib.hid (B10.out.fr f5 (fun e => by have e' : g10 = g11 := e; have := E4.out.l1; have := E4.out.l2; omega))
      have JF : Hid (Fr Nothing w wz) := (E4.out.fr.then_ FF.out (fun i hi e => by have e' : i = g10 := e; have := E4.out.lo; have := E4.out.l1; omega)).then_ f5 (fun i hi e => by have e' : i = g11 := e; have := E4.out.lo; have := E4.out.l1; have := E4.out.l2; omega)
      clear b5 f5
      go_wp2
      exact bodyPost_ret (results_cell_cell (fn := Tryd.f54) (p := 10) (q := 11) (ty := 24) Tryd.results54 _ wz _ _ 24 NV.toArray MV.toArray (0, 0) rfl rfl J10.out J11.out Tryd.underlying24 rfl DN.out.info DM.out.info) rfl ⟨rfl, JF.out⟩

theorem extend_any (n : Nat) : ExtC n := by
  induction n using Nat.strongRecOn with
  | _ n ih =>
    intro old m whole path p A c S w hD ho h1 hmn hn hp hc hcap hT
    by_cases e : m = n
    · subst e
      rw [extD_eq]
      rw [extLen_eq] at hp
      cases whole
      · obtain rfl : p = 1 := hp
        exact extend_part old m path A c S w hD
      · exact extend_whole old ho m _ w
    · by_cases hm : m ≤ leftN n
      · exact extend_left n ih old m whole path p A c S w hD ho h1 hmn hn hp hc hcap hT e hm
      · exact extend_right n ih old m whole path p A c S w hD ho h1 hmn hn hp hc hcap hT e hm
end Go.Proofs.YtkaghbpdnmigmaaDoor
