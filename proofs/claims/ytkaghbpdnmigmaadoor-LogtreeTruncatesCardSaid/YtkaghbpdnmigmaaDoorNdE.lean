/- From of both sides (written by genF.py). -/
import Derived.Test.YtkaghbpdnmigmaaDoorGwN
namespace Go.Proofs.YtkaghbpdnmigmaaDoor
open Go.RowKit

theorem nodesV_length (leaf : List UInt8) (hl : leaf.length = 32) (index n : Int) (path : List (List UInt8)) (he : ∀ d ∈ path, d.length = 32) : (nodesV leaf index n path).1.length = 32 := by
  unfold nodesV
  split
  · split
    · rename_i h
      exact (runF_ok leaf hl path he _ _ rfl (by omega)).root
    · exact zeroL_length
  · exact zeroL_length

theorem nodes_any (leaf : List UInt8) (hl : leaf.length = 32) (index n : Int) (bn : -9223372036854775808 ≤ n ∧ n ≤ 9223372036854775807) (path : List (List UInt8)) (len : Nat) (A : Option Addr) (c : Nat) (S : Nat → Prop) (w : World) (hD : DigL w S A len path) (hcap : len ≤ 1048576) (hT : ShaTab w) :
    Calls Tryd.prog 49 #[digV leaf, .int .i64 index, .int .i64 n, .slice A len c] w (NodesD w (nodesV leaf index n path)) := by
  by_cases h : 1 ≤ n ∧ n ≤ 1048576 ∧ 0 ≤ index ∧ index < n
  · obtain ⟨n', rfl⟩ : ∃ n' : Nat, n = n' := ⟨n.toNat, by omega⟩
    obtain ⟨i', rfl⟩ : ∃ i' : Nat, index = i' := ⟨index.toNat, by omega⟩
    exact nodes_run leaf hl i' n' (by omega) (by omega) path len A c S w hD hcap hT
  · have := nodes_range leaf hl index n A len c w h bn
    unfold nodesV
    rw [if_neg h]
    exact this

set_option maxRecDepth 100000 in
set_option maxHeartbeats 1000000 in
theorem From_any (leaf : List UInt8) (hl : leaf.length = 32) (index n : Int) (bn : -9223372036854775808 ≤ n ∧ n ≤ 9223372036854775807) (path : List (List UInt8)) (len : Nat) (A : Option Addr) (c : Nat) (S : Nat → Prop) (w : World) (hD : DigL w S A len path) (hcap : len ≤ 1048576) (hT : ShaTab w) :
    Calls Tryd.prog 22 #[digV leaf, .int .i64 index, .int .i64 n, .slice A len c] w (Same' w (.tuple #[digV (nodesV leaf index n path).1, .int .i64 (nodesV leaf index n path).2.2])) := by
  have CN : Hid (∀ w', Fr Nothing w w' → Calls Tryd.prog 49 #[digV leaf, .int .i64 index, .int .i64 n, .slice A len c] w' (NodesD w' (nodesV leaf index n path))) := fun w' hf => nodes_any leaf hl index n bn path len A c S w' (hD.fr0 hf) hcap (hT.fr0 hf)
  have lr := nodesV_length leaf hl index n path hD.each
  have HLV : Hid ((Tryd.prog.info? 24).map (·.size) = some (digC leaf).length) := by rw [digC, List.length_map, hl]; exact infoD
  unfold NodesD at CN
  generalize (nodesV leaf index n path).2.1 = ps at *
  generalize (nodesV leaf index n path).2.2 = E at *
  generalize (nodesV leaf index n path).1 = r at *
  have DR : Hid (Dig (digC r).toArray) := Dig.of lr
  have HRV : Hid ((Tryd.prog.info? 24).map (·.size) = some (digC r).length) := by rw [digC, List.length_map, lr]; exact infoD
  clear hl hD hT lr
  unfold digV at *
  simp only [show ∀ l : List UInt8, l.map bvI = digC l from fun _ => rfl] at *
  generalize digC leaf = LV at *
  generalize digC r = RV at *
  go_enter Tryd.func22, Tryd.ntmps22
  go_wp2_with (refine wpList_boxBlk rfl 24 (.tmp 0) rfl _ rfl ?_)
  intro w1 n1
  have N1 := Lib.hid n1
  clear n1
  go_wp2_with (refine wpList_allocBlk rfl 24 rfl zero32 zvD zero32c rfl ?_)
  intro w2 n2
  have B4 := Lib.hid (N1.out.blk.fr n2.fr (fun x => x))
  have B8 := Lib.hid n2.blk
  have F2 := Lib.hid (N1.out.fr.trans n2.fr)
  have z1 : Hid (w.heap.size ≤ w1.heap.size) := N1.out.fr.size
  clear n2 N1
  generalize h0 : w.heap.size = g4 at *
  have H0 := Lib.hid h0
  clear h0
  generalize w1.heap.size = g8 at *
  go_wp2_with (refine wpList_loadBlk rfl 24 (.tmp 4) rfl g4 rfl _ LV B4.out _ Tryd.underlying24 rfl HLV.out ?_)
  refine (CN.out _ F2.out).mono ?_
  rintro e w3 ⟨v, rfl, hG⟩
  have F3 := Lib.hid (F2.out.trans hG.fr0)
  have B83 := Lib.hid (B8.out.fr hG.fr0 (fun x => x))
  clear hG CN B8 B4
  go_wp2_with (refine wpList_allocBlk rfl 24 rfl zero32 zvD zero32c rfl ?_)
  intro w4 n4
  have F4 := Lib.hid (F3.out.trans n4.fr)
  have B84 := Lib.hid (B83.out.fr n4.fr (fun x => x))
  have B104 := Lib.hid n4.blk
  have z2 : Hid (g8 < w3.heap.size) := B83.out.lt
  clear n4
  generalize w3.heap.size = g10 at *
  go_wp2_with (refine wpList_storeBlk rfl 24 (.tmp 10) _ rfl g10 RV.toArray rfl rfl _ _ B104.out DR.out.info DR.out.zero DR.out.one ?_)
  intro w5 b5 f5
  have B105 := Lib.hid b5
  have B85 := Lib.hid (B84.out.fr f5 (fun e => by have e' : g8 = g10 := e; have := z2.out; omega))
  have F5 : Hid (Fr Nothing w w5) := F4.out.then_ f5 (fun i hi e => by have e' : i = g10 := e; have := z2.out; have := z1.out; have := H0.out; omega)
  clear b5 f5
  go_wp2_with (first | (refine wpList_loadBlk rfl 24 (.tmp 10) rfl g10 rfl _ RV B105.out _ Tryd.underlying24 rfl HRV.out ?_) | (refine wpList_storeBlk rfl 24 (.tmp 8) _ rfl g8 RV.toArray rfl rfl _ _ B85.out DR.out.info DR.out.zero DR.out.one ?_))
  intro w6 b6 f6
  have J8 := Lib.hid b6
  have JF : Hid (Fr Nothing w w6) := F5.out.then_ f6 (fun i hi e => by have e' : i = g8 := e; have := z1.out; have := H0.out; omega)
  clear b6 f6
  go_wp2
  exact bodyPost_ret (results_cell_slot (fn := Tryd.f22) (p := 8) (q := 9) (ty := 24) Tryd.results22 _ w6 _ 24 RV.toArray (0, 0) _ rfl J8.out Tryd.underlying24 rfl DR.out.info _ rfl) rfl ⟨rfl, JF.out⟩

theorem zip_take : ∀ (pre : List Bool) (path : List (List UInt8)), pre.zip (path.take pre.length) = pre.zip path
  | [], _ => rfl
  | x :: pre, [] => rfl
  | x :: pre, y :: path => by simp [zip_take pre path]
theorem runF_take (leaf : List UInt8) (pre : List Bool) (path : List (List UInt8)) : runF leaf pre (path.take pre.length) = runF leaf pre path := by unfold runF; rw [zip_take]

set_option maxRecDepth 100000 in
set_option maxHeartbeats 1000000 in
theorem long_any (n : Nat) : ∀ (index : Nat) (w : World), index < n → n ≤ 1048576 → Calls Tryd.prog 50 #[.int .i64 index, .int .i64 n] w (SameW w (.int .i64 ((stepsL index n).length : Nat))) := by
  induction n using Nat.strongRecOn with
  | _ n ih =>
    intro index w hin hn
    by_cases e : n = 1
    · subst e
      rw [stepsL_one]
      go_enter Tryd.func50, Tryd.ntmps50
      go_wp2
      go_ret
      exact ⟨rfl, rfl⟩
    · obtain ⟨ka, _, kc⟩ := leftN_bounds n (by omega) (by omega)
      have CS := Lib.hid (fun w => Left_any n w (by omega) (by omega))
      have t1 : ((n : Int) == 1) = false := by rw [beq_eq_false_iff_ne]; omega
      have hle := stepsL_le n index (by omega)
      by_cases hm : index < leftN n
      · have hE := stepsL_left (by omega) (by omega) hm
        have CI := Lib.hid (fun w => ih (leftN n) ka index w hm (by omega))
        rw [hE, List.length_append, List.length_singleton] at hle ⊢
        clear hE ih
        generalize (stepsL index (leftN n)).length = E at *
        generalize leftN n = k at *
        have t2 : decide ((index : Int) < (k : Int)) = true := decide_eq_true (by omega)
        obtain ⟨E', hE'⟩ : ∃ E' : Nat, E' = E + 1 := ⟨_, rfl⟩
        rw [← hE'] at hle ⊢
        have s1 : 1 + (E : Int) = (E' : Int) := by omega
        clear hE'
        go_enter Tryd.func50, Tryd.ntmps50
        go_wp2_with fail
        refine (CS.out _).mono ?_
        rintro e w1 ⟨rfl, rfl⟩
        go_wp2_with fail
        refine (CI.out _).mono ?_
        rintro e w1 ⟨rfl, rfl⟩
        go_wp2
        go_ret
        exact ⟨rfl, rfl⟩
      · have hE := stepsL_right (by omega) (by omega) hm
        have CI := Lib.hid (fun w => ih (n - leftN n) (by omega) (index - leftN n) w (by omega) (by omega))
        rw [hE, List.length_append, List.length_singleton] at hle ⊢
        clear hE ih
        generalize (stepsL (index - leftN n) (n - leftN n)).length = E at *
        generalize leftN n = k at *
        have t2 : decide ((index : Int) < (k : Int)) = false := decide_eq_false (by omega)
        obtain ⟨E', hE'⟩ : ∃ E' : Nat, E' = E + 1 := ⟨_, rfl⟩
        rw [← hE'] at hle ⊢
        have s1 : 1 + (E : Int) = (E' : Int) := by omega
        clear hE'
        obtain ⟨m', hm'⟩ : ∃ m' : Nat, m' = index - k := ⟨_, rfl⟩
        obtain ⟨n', hn'⟩ : ∃ n' : Nat, n' = n - k := ⟨_, rfl⟩
        rw [← hm', ← hn'] at CI
        have s2 : (index : Int) - (k : Int) = (m' : Int) := by omega
        have s3 : (n : Int) - (k : Int) = (n' : Int) := by omega
        have b1 : m' ≤ 1048576 := by omega
        have b2 : n' ≤ 1048576 := by omega
        clear hm' hn'
        go_enter Tryd.func50, Tryd.ntmps50
        go_wp2_with fail
        refine (CS.out _).mono ?_
        rintro e w1 ⟨rfl, rfl⟩
        go_wp2_with fail
        refine (CI.out _).mono ?_
        rintro e w1 ⟨rfl, rfl⟩
        go_wp2
        go_ret
        exact ⟨rfl, rfl⟩

def RFrom (n : Nat) : Prop := ∀ (leaf : List UInt8) (index : Nat) (path : List (List UInt8)) (p : Nat) (A : Option Addr) (c : Nat) (S : Nat → Prop) (w : World), DigL w S A p path → leaf.length = 32 → index < n → n ≤ 1048576 → p = (stepsL index n).length → p ≤ c → c ≤ 9223372036854775807 →
  Calls Tryd.prog 51 #[digV leaf, .int .i64 index, .int .i64 n, .slice A p c] w (Same' w (digV (runF leaf (stepsL index n) path).1))

set_option maxRecDepth 100000 in
set_option maxHeartbeats 1000000 in
theorem rfrom_one (leaf : List UInt8) (hl : leaf.length = 32) (v i : Value) (w : World) : Calls Tryd.prog 51 #[digV leaf, i, .int .i64 1, v] w (Same' w (digV leaf)) := by
  have DL : Hid (Dig (digC leaf).toArray) := Dig.of hl
  have HLV : Hid ((Tryd.prog.info? 23).map (·.size) = some (digC leaf).length) := by rw [digC, List.length_map, hl]; exact info32
  unfold digV at *
  simp only [show ∀ l : List UInt8, l.map bvI = digC l from fun _ => rfl] at *
  generalize digC leaf = LV at *
  go_enter Tryd.func51, Tryd.ntmps51
  go_wp2_with (refine wpList_boxBlk rfl 23 (.tmp 0) rfl _ rfl ?_)
  intro w1 n1
  have N1 := Lib.hid n1
  clear n1
  go_wp2_with (refine wpList_allocBlk rfl 23 rfl zero32 zv32 zero32c rfl ?_)
  intro w2 n2
  have B4 := Lib.hid (N1.out.blk.fr n2.fr (fun x => x))
  have B8 := Lib.hid n2.blk
  have F2 := Lib.hid (N1.out.fr.trans n2.fr)
  have z1 : Hid (w.heap.size < w1.heap.size) := by have := N1.out.size; simp only [Hid]; omega
  clear n2 N1
  generalize h0 : w.heap.size = g4 at *
  have H0 := Lib.hid h0
  clear h0
  generalize w1.heap.size = g8 at *
  go_wp2_with (first | (refine wpList_loadBlk rfl 23 (.tmp 4) rfl g4 rfl _ LV B4.out _ Tryd.underlying23 rfl HLV.out ?_) | (refine wpList_storeBlk rfl 23 (.tmp 8) _ rfl g8 LV.toArray rfl rfl _ _ B8.out DL.out.infoR DL.out.zero DL.out.one ?_))
  intro wz b6 f6
  have J8 := Lib.hid b6
  have JF : Hid (Fr Nothing w wz) := F2.out.then_ f6 (fun i hi e => by have e' : i = g8 := e; have := z1.out; have := H0.out; omega)
  clear b6 f6
  go_wp2
  exact bodyPost_ret (results_cell_row (fn := Tryd.f51) (p := 8) (ty := 23) Tryd.results51 _ wz _ 23 LV.toArray (0, 0) _ rfl J8.out Tryd.underlying23 rfl DL.out.infoR) rfl ⟨rfl, JF.out⟩

set_option maxRecDepth 100000 in
set_option maxHeartbeats 2000000 in
theorem rfrom_left (n : Nat) (ih : ∀ m, m < n → RFrom m) (leaf : List UInt8) (index : Nat) (path : List (List UInt8)) (p1 : Nat) (A : Option Addr) (c : Nat) (S : Nat → Prop) (w : World) (hD : DigL w S A p1 path) (ho : leaf.length = 32) (_hin : index < n) (hn : n ≤ 1048576)
    (hp : p1 = (stepsL index n).length) (hc : p1 ≤ c) (hcap : c ≤ 9223372036854775807) (h2 : 2 ≤ n) (hm : index < leftN n) :
    Calls Tryd.prog 51 #[digV leaf, .int .i64 index, .int .i64 n, .slice A p1 c] w (Same' w (digV (runF leaf (stepsL index n) path).1)) := by
  obtain ⟨ka, _, kc⟩ := leftN_bounds n (by omega) (by omega)
  have CS := Lib.hid (fun w => Left_any n w (by omega) (by omega))
  have hE := stepsL_left (by omega) (by omega) hm
  have hle := stepsL_le n index (by omega)
  obtain ⟨p, hpp⟩ : ∃ p, p = (stepsL index (leftN n)).length := ⟨_, rfl⟩
  rw [hE] at hp ⊢
  rw [hE] at hle
  rw [List.length_append, List.length_singleton, ← hpp] at hp hle
  have hl : path.length = p + 1 := by rw [hD.len, hp]
  obtain ⟨ad, last, rfl, _, hd, hd32, hcell⟩ := hD.at_ (k := p) (by omega)
  rw [runF_snoc leaf _ path _ last (by rw [← hpp]; exact hd), ← runF_take]
  rw [← hpp]
  have hr := (runF_ok leaf ho (path.take p) (fun d hd => hD.each d (List.mem_of_mem_take hd)) p (stepsL index (leftN n)) hpp.symm (by rw [List.length_take]; omega)).root
  have CI : Hid (∀ w', Fr Nothing w w' → Calls Tryd.prog 51 #[digV leaf, .int .i64 (index : Nat), .int .i64 ((leftN n) : Nat), .slice (some ad) p c] w' (Same' w' (digV (runF leaf (stepsL index (leftN n)) (path.take p)).1))) :=
    fun w' hf => ih _ (by omega) leaf _ (path.take p) p (some ad) c S w' ((hD.take (by omega)).fr0 hf) ho (by omega) (by omega) hpp (by omega) hcap
  have HC : Hid (∀ w', Fr Nothing w w' → ∀ j v, (digC last)[j]? = some v → w'.cell? ((ad.add (p * 32)).add j) = some v) := fun w' hf j v hv => hf.cellSome (hcell j v hv) (fun x => x)
  show Calls _ _ _ _ (Same' w (digV (nodeD _ _)))
  simp only [if_true]
  generalize (runF leaf (stepsL index (leftN n)) (path.take p)).1 = r at *
  have CN : Hid (∀ w', Fr Nothing w w' → Calls Tryd.prog 18 #[digV r, digV last] w' (Same' w' (digV (nodeD r last)))) := fun w' hf => rNode_any _ _ hr hd32 w'
  have ln : (nodeD r last).length = 32 := nodeD_length _ _
  generalize nodeD r last = nn at *
  have DO : Hid (Dig (digC leaf).toArray) := Dig.of ho
  have DN : Hid (Dig (digC nn).toArray) := Dig.of ln
  have DL : Hid (Dig (digC last).toArray) := Dig.of hd32
  have HOV : Hid ((Tryd.prog.info? 23).map (·.size) = some (digC leaf).length) := by rw [digC, List.length_map, ho]; exact info32
  have HLV : Hid ((Tryd.prog.info? 23).map (·.size) = some (digC last).length) := by rw [digC, List.length_map, hd32]; exact info32
  generalize leftN n = k at *
  have t1 : ((n : Int) == 1) = false := by rw [beq_eq_false_iff_ne]; omega
  have t2 : decide ((index : Int) < (k : Int)) = true := decide_eq_true (by omega)
  have s1 : (p1 : Int) - 1 = (p : Int) := by omega
  have b1 : (p : Int) ≤ (c : Int) := by omega
  have b2 : (p : Int) < (p1 : Int) := by omega
  have b3 : p < p1 := by omega
  have hp64 : p1 ≤ 1048576 := by omega
  have e3 : IntKind.i64.wrap (p : Int) = (p : Int) := IntWalk.i64_in _ (by omega)
  clear hD hE hle hpp hl hd hd32 hcell ih ln ho hp hr
  unfold digV at *
  simp only [show ∀ l : List UInt8, l.map bvI = digC l from fun _ => rfl] at *
  generalize digC leaf = OV at *
  generalize digC r = AV at *
  generalize digC last = LV at *
  generalize digC nn = NV at *
  go_enter Tryd.func51, Tryd.ntmps51
  go_wp2_with (refine wpList_boxBlk rfl 23 (.tmp 0) rfl _ rfl ?_)
  intro w1 n1
  have N1 := Lib.hid n1
  clear n1
  go_wp2_with (refine wpList_allocBlk rfl 23 rfl zero32 zv32 zero32c rfl ?_)
  intro w2 n2
  have B4 := Lib.hid (N1.out.blk.fr n2.fr (fun x => x))
  have B8 := Lib.hid n2.blk
  have F2 := Lib.hid (N1.out.fr.trans n2.fr)
  have z1 : Hid (w.heap.size < w1.heap.size) := by have := N1.out.size; simp only [Hid]; omega
  clear n2 N1
  generalize h0 : w.heap.size = g4 at *
  have H0 := Lib.hid h0
  clear h0
  generalize w1.heap.size = g8 at *
  go_upto_region 3 with fail
  refine wp_region_new 10 23 [fun v => v = .int .i64 n, fun v => v = .int .i64 k, fun v => v = .slice (some ad) p1 c, fun v => v = .slice (some ad) p1 c, fun v => v = .int .i64 p1, fun v => v = .int .i64 p, fun v => v = .pointer (some (ad.add (p * 32))), fun v => v = .agg LV.toArray, fun _ => True, fun v => v = .int .i64 k] [] [(8, zero32c)] [] (by kernel_rfl) (by kernel_rfl) (by kernel_rfl) trivial ?_ ?_
  · refine ⟨fun u w' hf hR hW => ?_, fun u w' hf hR hW => ?_, fun u w' hf hR hW => ?_, fun u w' hf hR hW => ?_, fun u w' hf hR hW => ?_, fun u w' hf hR hW => ?_, fun u w' hf hR hW => ?_, fun u w' hf hR hW => ?_, fun u w' hf hR => ?_, fun u w' hf hR hW => ?_, trivial⟩
    all_goals simp only [List.take_succ_cons, List.take_zero, List.map_cons, List.map_nil, puts, Act.put, List.setIfInBounds_toArray, List.set_cons_zero, List.set_cons_succ, Nat.reduceAdd, Nat.zero_add]
    · clear hR hW
      refine .inl ⟨by kernel_rfl, ?_⟩
      go_simp
      exact ⟨_, rfl, rfl, trivial, Fr.refl _ _⟩
    · have h0 : u 0 = _ := hR 0 (by kernel_rfl)
      clear hR hW
      simp only [h0]
      refine .inl ⟨by kernel_rfl, ?_⟩
      go_simp
      refine (CS.out _).mono ?_
      rintro e w4 ⟨rfl, rfl⟩
      exact ⟨_, rfl, rfl, trivial, Fr.refl _ _⟩
    · clear hR hW
      refine .inl ⟨by kernel_rfl, ?_⟩
      go_simp
      exact ⟨_, rfl, rfl, trivial, Fr.refl _ _⟩
    · clear hR hW
      refine .inl ⟨by kernel_rfl, ?_⟩
      go_simp
      exact ⟨_, rfl, rfl, trivial, Fr.refl _ _⟩
    · have h3 : u 3 = _ := hR 3 (by kernel_rfl)
      clear hR hW
      simp only [h3]
      refine .inl ⟨by kernel_rfl, ?_⟩
      go_simp
      exact ⟨_, rfl, rfl, trivial, Fr.refl _ _⟩
    · have h4 : u 4 = _ := hR 4 (by kernel_rfl)
      clear hR hW
      simp only [h4]
      refine .inl ⟨by kernel_rfl, ?_⟩
      go_simp
      exact ⟨_, rfl, rfl, trivial, Fr.refl _ _⟩
    · have h2 : u 2 = _ := hR 2 (by kernel_rfl)
      have h5 : u 5 = _ := hR 5 (by kernel_rfl)
      clear hR hW
      simp only [h2, h5]
      refine .inl ⟨by kernel_rfl, ?_⟩
      go_simp
      exact ⟨_, rfl, rfl, trivial, Fr.refl _ _⟩
    · have h6 : u 6 = _ := hR 6 (by kernel_rfl)
      clear hR hW
      simp only [h6]
      refine .inl ⟨by kernel_rfl, ?_⟩
      exact wp_load_add _ _ rfl (ad.add (p * 32)) rfl LV _ (HC.out _ (F2.out.trans hf)) Tryd.underlying23 rfl HLV.out ⟨_, rfl, rfl, trivial, Fr.refl _ _⟩
    · clear hR
      refine .inl ⟨by kernel_rfl, ?_⟩
      refine wp_allocBlk 23 rfl zero32 zv32 zero32c rfl ?_
      intro w4 n4
      exact ⟨_, rfl, trivial, trivial, rfl, n4⟩
    · have h1 : u 1 = _ := hR 1 (by kernel_rfl)
      clear hR hW
      simp only [h1]
      refine .inl ⟨by kernel_rfl, ?_⟩
      go_simp
      exact ⟨_, rfl, rfl, trivial, Fr.refl _ _⟩
  · intro u w' hf hR hN hA
    have h7 : u 7 = _ := hR 7 (by omega)
    have h9 : u 9 = _ := hR 9 (by omega)
    obtain ⟨g10, h8, l10, b10⟩ := hN 8 zero32c (by simp)
    have b10' : Blk w' g10 23 zero32c := b10
    have n10 : Hid (g8 < g10) := Nat.lt_of_lt_of_le B8.out.lt l10
    have F3 := Lib.hid (F2.out.trans hf)
    have B43 := Lib.hid (B4.out.fr hf (fun x => x))
    have B83 := Lib.hid (B8.out.fr hf (fun x => x))
    have L4 := Lib.hid b10'
    clear hR hN hA hf b10 b10' l10 B4 B8 F2
    simp only [List.take_succ_cons, List.take_zero, List.map_cons, List.map_nil, puts, Act.put, List.setIfInBounds_toArray, List.set_cons_zero, List.set_cons_succ, List.drop_succ_cons, List.drop_zero, Nat.reduceAdd, Nat.zero_add, h7, h8, h9]
    go_wp2_with (refine wpList_storeBlk rfl 23 (.tmp 10) _ rfl g10 LV.toArray rfl rfl _ _ L4.out DL.out.infoR DL.out.zero DL.out.one ?_)
    intro w5 b5 f5
    have B45 := Lib.hid (B43.out.fr f5 (fun e => by have e' : g4 = g10 := e; have := z1.out; have := n10.out; omega))
    have B85 := Lib.hid (B83.out.fr f5 (fun e => by have e' : g8 = g10 := e; have := n10.out; omega))
    have L5 := Lib.hid b5
    have F5 : Hid (Fr Nothing w w5) := F3.out.then_ f5 (fun i hi e => by have e' : i = g10 := e; have := z1.out; have := n10.out; have := H0.out; omega)
    clear b5 f5 L4 HC CS B43 B83 F3
    go_upto_region 5 with fail
    refine wp_region_new 11 23 [fun v => v = .agg OV.toArray, fun v => v = .int .i64 index, fun v => v = .int .i64 k, fun v => v = .slice (some ad) p1 c, fun v => v = .slice (some ad) p1 c, fun v => v = .int .i64 p1, fun v => v = .int .i64 p, fun v => v = .slice (some ad) p c, fun v => v = .agg AV.toArray, fun v => v = .agg LV.toArray, fun v => v = .agg NV.toArray] [] [] [] (by kernel_rfl) (by kernel_rfl) (by kernel_rfl) trivial ?_ ?_
    · refine ⟨fun u w' hf hR hW => ?_, fun u w' hf hR hW => ?_, fun u w' hf hR hW => ?_, fun u w' hf hR hW => ?_, fun u w' hf hR hW => ?_, fun u w' hf hR hW => ?_, fun u w' hf hR hW => ?_, fun u w' hf hR hW => ?_, fun u w' hf hR hW => ?_, fun u w' hf hR hW => ?_, fun u w' hf hR hW => ?_, trivial⟩
      all_goals simp only [List.take_succ_cons, List.take_zero, List.map_cons, List.map_nil, puts, Act.put, List.setIfInBounds_toArray, List.set_cons_zero, List.set_cons_succ, Nat.reduceAdd, Nat.zero_add]
      · clear hR hW
        refine .inl ⟨by kernel_rfl, ?_⟩
        exact wp_load_mid _ _ rfl g4 0 rfl OV _ (range_blk (B45.out.fr hf (fun x => x))) Tryd.underlying23 rfl HOV.out ⟨_, rfl, rfl, trivial, Fr.refl _ _⟩
      · clear hR hW
        refine .inl ⟨by kernel_rfl, ?_⟩
        go_simp
        exact ⟨_, rfl, rfl, trivial, Fr.refl _ _⟩
      · clear hR hW
        refine .inl ⟨by kernel_rfl, ?_⟩
        go_simp
        exact ⟨_, rfl, rfl, trivial, Fr.refl _ _⟩
      · clear hR hW
        refine .inl ⟨by kernel_rfl, ?_⟩
        go_simp
        exact ⟨_, rfl, rfl, trivial, Fr.refl _ _⟩
      · clear hR hW
        refine .inl ⟨by kernel_rfl, ?_⟩
        go_simp
        exact ⟨_, rfl, rfl, trivial, Fr.refl _ _⟩
      · have h4 : u 4 = _ := hR 4 (by kernel_rfl)
        clear hR hW
        simp only [h4]
        refine .inl ⟨by kernel_rfl, ?_⟩
        go_simp
        exact ⟨_, rfl, rfl, trivial, Fr.refl _ _⟩
      · have h5 : u 5 = _ := hR 5 (by kernel_rfl)
        clear hR hW
        simp only [h5]
        refine .inl ⟨by kernel_rfl, ?_⟩
        go_simp
        exact ⟨_, rfl, rfl, trivial, Fr.refl _ _⟩
      · have h3 : u 3 = _ := hR 3 (by kernel_rfl)
        have h6 : u 6 = _ := hR 6 (by kernel_rfl)
        clear hR hW
        simp only [h3, h6]
        refine .inl ⟨by kernel_rfl, ?_⟩
        go_simp
        exact ⟨_, rfl, rfl, trivial, Fr.refl _ _⟩
      · have h0 : u 0 = _ := hR 0 (by kernel_rfl)
        have h1 : u 1 = _ := hR 1 (by kernel_rfl)
        have h2 : u 2 = _ := hR 2 (by kernel_rfl)
        have h7 : u 7 = _ := hR 7 (by kernel_rfl)
        clear hR hW
        simp only [h0, h1, h2, h7]
        refine .inl ⟨by kernel_rfl, ?_⟩
        go_simp
        refine (CI.out _ (F5.out.trans hf)).mono ?_
        rintro e w4 ⟨rfl, f4⟩
        exact ⟨_, rfl, rfl, trivial, f4⟩
      · clear hR hW
        refine .inl ⟨by kernel_rfl, ?_⟩
        exact wp_load_mid _ _ rfl g10 0 rfl LV _ (range_blk (L5.out.fr hf (fun x => x))) Tryd.underlying23 rfl HLV.out ⟨_, rfl, rfl, trivial, Fr.refl _ _⟩
      · have h8 : u 8 = _ := hR 8 (by kernel_rfl)
        have h9 : u 9 = _ := hR 9 (by kernel_rfl)
        clear hR hW
        simp only [h8, h9]
        refine .inl ⟨by kernel_rfl, ?_⟩
        go_simp
        refine (CN.out _ (F5.out.trans hf)).mono ?_
        rintro e w4 ⟨rfl, f4⟩
        exact ⟨_, rfl, rfl, trivial, f4⟩
    · intro u w' hf hR hN hA
      have hv : u 10 = _ := hR 10 (by omega)
      have F6 := Lib.hid (F5.out.trans hf)
      have B86 := Lib.hid (B85.out.fr hf (fun x => x))
      clear hR hN hA hf
      simp only [List.take_succ_cons, List.take_zero, List.map_cons, List.map_nil, puts, Act.put, List.setIfInBounds_toArray, List.set_cons_zero, List.set_cons_succ, List.drop_succ_cons, List.drop_zero, Nat.reduceAdd, Nat.zero_add, hv]
      go_wp2_with (refine wpList_storeBlk rfl 23 (.tmp 8) _ rfl g8 NV.toArray rfl rfl _ _ B86.out DN.out.infoR DN.out.zero DN.out.one ?_)
      intro wz b6 f6
      have J8 := Lib.hid b6
      have JF : Hid (Fr Nothing w wz) := F6.out.then_ f6 (fun i hi e => by have e' : i = g8 := e; have := z1.out; have := H0.out; omega)
      clear b6 f6
      go_wp2
      exact bodyPost_ret (results_cell_row (fn := Tryd.f51) (p := 8) (ty := 23) Tryd.results51 _ wz _ 23 NV.toArray (0, 0) _ rfl J8.out Tryd.underlying23 rfl DN.out.infoR) rfl ⟨rfl, JF.out⟩

set_option maxRecDepth 100000 in
set_option maxHeartbeats 2000000 in
theorem rfrom_right (n : Nat) (ih : ∀ m, m < n → RFrom m) (leaf : List UInt8) (index : Nat) (path : List (List UInt8)) (p1 : Nat) (A : Option Addr) (c : Nat) (S : Nat → Prop) (w : World) (hD : DigL w S A p1 path) (ho : leaf.length = 32) (hin : index < n) (hn : n ≤ 1048576)
    (hp : p1 = (stepsL index n).length) (hc : p1 ≤ c) (hcap : c ≤ 9223372036854775807) (h2 : 2 ≤ n) (hm : ¬ index < leftN n) :
    Calls Tryd.prog 51 #[digV leaf, .int .i64 index, .int .i64 n, .slice A p1 c] w (Same' w (digV (runF leaf (stepsL index n) path).1)) := by
  obtain ⟨ka, _, kc⟩ := leftN_bounds n (by omega) (by omega)
  have CS := Lib.hid (fun w => Left_any n w (by omega) (by omega))
  have hE := stepsL_right (by omega) (by omega) hm
  have hle := stepsL_le n index (by omega)
  obtain ⟨p, hpp⟩ : ∃ p, p = (stepsL (index - leftN n) (n - leftN n)).length := ⟨_, rfl⟩
  rw [hE] at hp ⊢
  rw [hE] at hle
  rw [List.length_append, List.length_singleton, ← hpp] at hp hle
  have hl : path.length = p + 1 := by rw [hD.len, hp]
  obtain ⟨ad, last, rfl, _, hd, hd32, hcell⟩ := hD.at_ (k := p) (by omega)
  rw [runF_snoc leaf _ path _ last (by rw [← hpp]; exact hd), ← runF_take]
  rw [← hpp]
  have hr := (runF_ok leaf ho (path.take p) (fun d hd => hD.each d (List.mem_of_mem_take hd)) p (stepsL (index - leftN n) (n - leftN n)) hpp.symm (by rw [List.length_take]; omega)).root
  have CI : Hid (∀ w', Fr Nothing w w' → Calls Tryd.prog 51 #[digV leaf, .int .i64 ((index - leftN n) : Nat), .int .i64 ((n - leftN n) : Nat), .slice (some ad) p c] w' (Same' w' (digV (runF leaf (stepsL (index - leftN n) (n - leftN n)) (path.take p)).1))) :=
    fun w' hf => ih _ (by omega) leaf _ (path.take p) p (some ad) c S w' ((hD.take (by omega)).fr0 hf) ho (by omega) (by omega) hpp (by omega) hcap
  have HC : Hid (∀ w', Fr Nothing w w' → ∀ j v, (digC last)[j]? = some v → w'.cell? ((ad.add (p * 32)).add j) = some v) := fun w' hf j v hv => hf.cellSome (hcell j v hv) (fun x => x)
  show Calls _ _ _ _ (Same' w (digV (nodeD _ _)))
  simp only [Bool.false_eq_true, if_false]
  generalize (runF leaf (stepsL (index - leftN n) (n - leftN n)) (path.take p)).1 = r at *
  have CN : Hid (∀ w', Fr Nothing w w' → Calls Tryd.prog 18 #[digV last, digV r] w' (Same' w' (digV (nodeD last r)))) := fun w' hf => rNode_any _ _ hd32 hr w'
  have ln : (nodeD last r).length = 32 := nodeD_length _ _
  generalize nodeD last r = nn at *
  have DO : Hid (Dig (digC leaf).toArray) := Dig.of ho
  have DN : Hid (Dig (digC nn).toArray) := Dig.of ln
  have DL : Hid (Dig (digC last).toArray) := Dig.of hd32
  have HOV : Hid ((Tryd.prog.info? 23).map (·.size) = some (digC leaf).length) := by rw [digC, List.length_map, ho]; exact info32
  have HLV : Hid ((Tryd.prog.info? 23).map (·.size) = some (digC last).length) := by rw [digC, List.length_map, hd32]; exact info32
  generalize leftN n = k at *
  have t1 : ((n : Int) == 1) = false := by rw [beq_eq_false_iff_ne]; omega
  have t2 : decide ((index : Int) < (k : Int)) = false := decide_eq_false (by omega)
  have s1 : (p1 : Int) - 1 = (p : Int) := by omega
  have b1 : (p : Int) ≤ (c : Int) := by omega
  have b2 : (p : Int) < (p1 : Int) := by omega
  have b3 : p < p1 := by omega
  obtain ⟨m', hm'⟩ : ∃ m' : Nat, m' = index - k := ⟨_, rfl⟩
  obtain ⟨n', hn'⟩ : ∃ n' : Nat, n' = n - k := ⟨_, rfl⟩
  rw [← hm', ← hn'] at CI
  have s2 : (index : Int) - (k : Int) = (m' : Int) := by omega
  have s3 : (n : Int) - (k : Int) = (n' : Int) := by omega
  have c1 : m' ≤ 1048576 := by omega
  have c2 : n' ≤ 1048576 := by omega
  have e1 : IntKind.i64.wrap (m' : Int) = (m' : Int) := IntWalk.i64_in _ (by omega)
  have e2 : IntKind.i64.wrap (n' : Int) = (n' : Int) := IntWalk.i64_in _ (by omega)
  clear hm' hn'
  have hp64 : p1 ≤ 1048576 := by omega
  have e3 : IntKind.i64.wrap (p : Int) = (p : Int) := IntWalk.i64_in _ (by omega)
  clear hD hE hle hpp hl hd hd32 hcell ih ln ho hp hr
  unfold digV at *
  simp only [show ∀ l : List UInt8, l.map bvI = digC l from fun _ => rfl] at *
  generalize digC leaf = OV at *
  generalize digC r = AV at *
  generalize digC last = LV at *
  generalize digC nn = NV at *
  go_enter Tryd.func51, Tryd.ntmps51
  go_wp2_with (refine wpList_boxBlk rfl 23 (.tmp 0) rfl _ rfl ?_)
  intro w1 n1
  have N1 := Lib.hid n1
  clear n1
  go_wp2_with (refine wpList_allocBlk rfl 23 rfl zero32 zv32 zero32c rfl ?_)
  intro w2 n2
  have B4 := Lib.hid (N1.out.blk.fr n2.fr (fun x => x))
  have B8 := Lib.hid n2.blk
  have F2 := Lib.hid (N1.out.fr.trans n2.fr)
  have z1 : Hid (w.heap.size < w1.heap.size) := by have := N1.out.size; simp only [Hid]; omega
  clear n2 N1
  generalize h0 : w.heap.size = g4 at *
  have H0 := Lib.hid h0
  clear h0
  generalize w1.heap.size = g8 at *
  go_upto_region 3 with fail
  refine wp_region_new 10 23 [fun v => v = .int .i64 n, fun v => v = .int .i64 k, fun v => v = .slice (some ad) p1 c, fun v => v = .slice (some ad) p1 c, fun v => v = .int .i64 p1, fun v => v = .int .i64 p, fun v => v = .pointer (some (ad.add (p * 32))), fun v => v = .agg LV.toArray, fun _ => True, fun v => v = .int .i64 k] [] [(8, zero32c)] [] (by kernel_rfl) (by kernel_rfl) (by kernel_rfl) trivial ?_ ?_
  · refine ⟨fun u w' hf hR hW => ?_, fun u w' hf hR hW => ?_, fun u w' hf hR hW => ?_, fun u w' hf hR hW => ?_, fun u w' hf hR hW => ?_, fun u w' hf hR hW => ?_, fun u w' hf hR hW => ?_, fun u w' hf hR hW => ?_, fun u w' hf hR => ?_, fun u w' hf hR hW => ?_, trivial⟩
    all_goals simp only [List.take_succ_cons, List.take_zero, List.map_cons, List.map_nil, puts, Act.put, List.setIfInBounds_toArray, List.set_cons_zero, List.set_cons_succ, Nat.reduceAdd, Nat.zero_add]
    · clear hR hW
      refine .inl ⟨by kernel_rfl, ?_⟩
      go_simp
      exact ⟨_, rfl, rfl, trivial, Fr.refl _ _⟩
    · have h0 : u 0 = _ := hR 0 (by kernel_rfl)
      clear hR hW
      simp only [h0]
      refine .inl ⟨by kernel_rfl, ?_⟩
      go_simp
      refine (CS.out _).mono ?_
      rintro e w4 ⟨rfl, rfl⟩
      exact ⟨_, rfl, rfl, trivial, Fr.refl _ _⟩
    · clear hR hW
      refine .inl ⟨by kernel_rfl, ?_⟩
      go_simp
      exact ⟨_, rfl, rfl, trivial, Fr.refl _ _⟩
    · clear hR hW
      refine .inl ⟨by kernel_rfl, ?_⟩
      go_simp
      exact ⟨_, rfl, rfl, trivial, Fr.refl _ _⟩
    · have h3 : u 3 = _ := hR 3 (by kernel_rfl)
      clear hR hW
      simp only [h3]
      refine .inl ⟨by kernel_rfl, ?_⟩
      go_simp
      exact ⟨_, rfl, rfl, trivial, Fr.refl _ _⟩
    · have h4 : u 4 = _ := hR 4 (by kernel_rfl)
      clear hR hW
      simp only [h4]
      refine .inl ⟨by kernel_rfl, ?_⟩
      go_simp
      exact ⟨_, rfl, rfl, trivial, Fr.refl _ _⟩
    · have h2 : u 2 = _ := hR 2 (by kernel_rfl)
      have h5 : u 5 = _ := hR 5 (by kernel_rfl)
      clear hR hW
      simp only [h2, h5]
      refine .inl ⟨by kernel_rfl, ?_⟩
      go_simp
      exact ⟨_, rfl, rfl, trivial, Fr.refl _ _⟩
    · have h6 : u 6 = _ := hR 6 (by kernel_rfl)
      clear hR hW
      simp only [h6]
      refine .inl ⟨by kernel_rfl, ?_⟩
      exact wp_load_add _ _ rfl (ad.add (p * 32)) rfl LV _ (HC.out _ (F2.out.trans hf)) Tryd.underlying23 rfl HLV.out ⟨_, rfl, rfl, trivial, Fr.refl _ _⟩
    · clear hR
      refine .inl ⟨by kernel_rfl, ?_⟩
      refine wp_allocBlk 23 rfl zero32 zv32 zero32c rfl ?_
      intro w4 n4
      exact ⟨_, rfl, trivial, trivial, rfl, n4⟩
    · have h1 : u 1 = _ := hR 1 (by kernel_rfl)
      clear hR hW
      simp only [h1]
      refine .inl ⟨by kernel_rfl, ?_⟩
      go_simp
      exact ⟨_, rfl, rfl, trivial, Fr.refl _ _⟩
  · intro u w' hf hR hN hA
    have h7 : u 7 = _ := hR 7 (by omega)
    have h9 : u 9 = _ := hR 9 (by omega)
    obtain ⟨g10, h8, l10, b10⟩ := hN 8 zero32c (by simp)
    have b10' : Blk w' g10 23 zero32c := b10
    have n10 : Hid (g8 < g10) := Nat.lt_of_lt_of_le B8.out.lt l10
    have F3 := Lib.hid (F2.out.trans hf)
    have B43 := Lib.hid (B4.out.fr hf (fun x => x))
    have B83 := Lib.hid (B8.out.fr hf (fun x => x))
    have L4 := Lib.hid b10'
    clear hR hN hA hf b10 b10' l10 B4 B8 F2
    simp only [List.take_succ_cons, List.take_zero, List.map_cons, List.map_nil, puts, Act.put, List.setIfInBounds_toArray, List.set_cons_zero, List.set_cons_succ, List.drop_succ_cons, List.drop_zero, Nat.reduceAdd, Nat.zero_add, h7, h8, h9]
    go_wp2_with (refine wpList_storeBlk rfl 23 (.tmp 10) _ rfl g10 LV.toArray rfl rfl _ _ L4.out DL.out.infoR DL.out.zero DL.out.one ?_)
    intro w5 b5 f5
    have B45 := Lib.hid (B43.out.fr f5 (fun e => by have e' : g4 = g10 := e; have := z1.out; have := n10.out; omega))
    have B85 := Lib.hid (B83.out.fr f5 (fun e => by have e' : g8 = g10 := e; have := n10.out; omega))
    have L5 := Lib.hid b5
    have F5 : Hid (Fr Nothing w w5) := F3.out.then_ f5 (fun i hi e => by have e' : i = g10 := e; have := z1.out; have := n10.out; have := H0.out; omega)
    clear b5 f5 L4 HC CS B43 B83 F3
    go_upto_region 6 with fail
    refine wp_region_new 15 23 [fun v => v = .agg LV.toArray, fun v => v = .agg OV.toArray, fun v => v = .int .i64 index, fun v => v = .int .i64 k, fun v => v = .int .i64 m', fun v => v = .int .i64 n, fun v => v = .int .i64 k, fun v => v = .int .i64 n', fun v => v = .slice (some ad) p1 c, fun v => v = .slice (some ad) p1 c, fun v => v = .int .i64 p1, fun v => v = .int .i64 p, fun v => v = .slice (some ad) p c, fun v => v = .agg AV.toArray, fun v => v = .agg NV.toArray] [] [] [] (by kernel_rfl) (by kernel_rfl) (by kernel_rfl) trivial ?_ ?_
    · refine ⟨fun u w' hf hR hW => ?_, fun u w' hf hR hW => ?_, fun u w' hf hR hW => ?_, fun u w' hf hR hW => ?_, fun u w' hf hR hW => ?_, fun u w' hf hR hW => ?_, fun u w' hf hR hW => ?_, fun u w' hf hR hW => ?_, fun u w' hf hR hW => ?_, fun u w' hf hR hW => ?_, fun u w' hf hR hW => ?_, fun u w' hf hR hW => ?_, fun u w' hf hR hW => ?_, fun u w' hf hR hW => ?_, fun u w' hf hR hW => ?_, trivial⟩
      all_goals simp only [List.take_succ_cons, List.take_zero, List.map_cons, List.map_nil, puts, Act.put, List.setIfInBounds_toArray, List.set_cons_zero, List.set_cons_succ, Nat.reduceAdd, Nat.zero_add]
      · clear hR hW
        refine .inl ⟨by kernel_rfl, ?_⟩
        exact wp_load_mid _ _ rfl g10 0 rfl LV _ (range_blk (L5.out.fr hf (fun x => x))) Tryd.underlying23 rfl HLV.out ⟨_, rfl, rfl, trivial, Fr.refl _ _⟩
      · clear hR hW
        refine .inl ⟨by kernel_rfl, ?_⟩
        exact wp_load_mid _ _ rfl g4 0 rfl OV _ (range_blk (B45.out.fr hf (fun x => x))) Tryd.underlying23 rfl HOV.out ⟨_, rfl, rfl, trivial, Fr.refl _ _⟩
      · clear hR hW
        refine .inl ⟨by kernel_rfl, ?_⟩
        go_simp
        exact ⟨_, rfl, rfl, trivial, Fr.refl _ _⟩
      · clear hR hW
        refine .inl ⟨by kernel_rfl, ?_⟩
        go_simp
        exact ⟨_, rfl, rfl, trivial, Fr.refl _ _⟩
      · have h2 : u 2 = _ := hR 2 (by kernel_rfl)
        have h3 : u 3 = _ := hR 3 (by kernel_rfl)
        clear hR hW
        simp only [h2, h3]
        refine .inl ⟨by kernel_rfl, ?_⟩
        go_simp
        exact ⟨_, rfl, rfl, trivial, Fr.refl _ _⟩
      · clear hR hW
        refine .inl ⟨by kernel_rfl, ?_⟩
        go_simp
        exact ⟨_, rfl, rfl, trivial, Fr.refl _ _⟩
      · clear hR hW
        refine .inl ⟨by kernel_rfl, ?_⟩
        go_simp
        exact ⟨_, rfl, rfl, trivial, Fr.refl _ _⟩
      · have h5 : u 5 = _ := hR 5 (by kernel_rfl)
        have h6 : u 6 = _ := hR 6 (by kernel_rfl)
        clear hR hW
        simp only [h5, h6]
        refine .inl ⟨by kernel_rfl, ?_⟩
        go_simp
        exact ⟨_, rfl, rfl, trivial, Fr.refl _ _⟩
      · clear hR hW
        refine .inl ⟨by kernel_rfl, ?_⟩
        go_simp
        exact ⟨_, rfl, rfl, trivial, Fr.refl _ _⟩
      · clear hR hW
        refine .inl ⟨by kernel_rfl, ?_⟩
        go_simp
        exact ⟨_, rfl, rfl, trivial, Fr.refl _ _⟩
      · have h9 : u 9 = _ := hR 9 (by kernel_rfl)
        clear hR hW
        simp only [h9]
        refine .inl ⟨by kernel_rfl, ?_⟩
        go_simp
        exact ⟨_, rfl, rfl, trivial, Fr.refl _ _⟩
      · have h10 : u 10 = _ := hR 10 (by kernel_rfl)
        clear hR hW
        simp only [h10]
        refine .inl ⟨by kernel_rfl, ?_⟩
        go_simp
        exact ⟨_, rfl, rfl, trivial, Fr.refl _ _⟩
      · have h8 : u 8 = _ := hR 8 (by kernel_rfl)
        have h11 : u 11 = _ := hR 11 (by kernel_rfl)
        clear hR hW
        simp only [h8, h11]
        refine .inl ⟨by kernel_rfl, ?_⟩
        go_simp
        exact ⟨_, rfl, rfl, trivial, Fr.refl _ _⟩
      · have h1 : u 1 = _ := hR 1 (by kernel_rfl)
        have h4 : u 4 = _ := hR 4 (by kernel_rfl)
        have h7 : u 7 = _ := hR 7 (by kernel_rfl)
        have h12 : u 12 = _ := hR 12 (by kernel_rfl)
        clear hR hW
        simp only [h1, h4, h7, h12]
        refine .inl ⟨by kernel_rfl, ?_⟩
        go_simp
        refine (CI.out _ (F5.out.trans hf)).mono ?_
        rintro e w4 ⟨rfl, f4⟩
        exact ⟨_, rfl, rfl, trivial, f4⟩
      · have h0 : u 0 = _ := hR 0 (by kernel_rfl)
        have h13 : u 13 = _ := hR 13 (by kernel_rfl)
        clear hR hW
        simp only [h0, h13]
        refine .inl ⟨by kernel_rfl, ?_⟩
        go_simp
        refine (CN.out _ (F5.out.trans hf)).mono ?_
        rintro e w4 ⟨rfl, f4⟩
        exact ⟨_, rfl, rfl, trivial, f4⟩
    · intro u w' hf hR hN hA
      have hv : u 14 = _ := hR 14 (by omega)
      have F6 := Lib.hid (F5.out.trans hf)
      have B86 := Lib.hid (B85.out.fr hf (fun x => x))
      clear hR hN hA hf
      simp only [List.take_succ_cons, List.take_zero, List.map_cons, List.map_nil, puts, Act.put, List.setIfInBounds_toArray, List.set_cons_zero, List.set_cons_succ, List.drop_succ_cons, List.drop_zero, Nat.reduceAdd, Nat.zero_add, hv]
      go_wp2_with (refine wpList_storeBlk rfl 23 (.tmp 8) _ rfl g8 NV.toArray rfl rfl _ _ B86.out DN.out.infoR DN.out.zero DN.out.one ?_)
      intro wz b6 f6
      have J8 := Lib.hid b6
      have JF : Hid (Fr Nothing w wz) := F6.out.then_ f6 (fun i hi e => by have e' : i = g8 := e; have := z1.out; have := H0.out; omega)
      clear b6 f6
      go_wp2
      exact bodyPost_ret (results_cell_row (fn := Tryd.f51) (p := 8) (ty := 23) Tryd.results51 _ wz _ 23 NV.toArray (0, 0) _ rfl J8.out Tryd.underlying23 rfl DN.out.infoR) rfl ⟨rfl, JF.out⟩

theorem rfrom_any (n : Nat) : RFrom n := by
  induction n using Nat.strongRecOn with
  | _ n ih =>
    intro leaf index path p A c S w hD ho hin hn hp hc hcap
    by_cases e : n = 1
    · subst e
      rw [stepsL_one]
      exact rfrom_one leaf ho _ _ w
    · by_cases hm : index < leftN n
      · exact rfrom_left n ih leaf index path p A c S w hD ho hin hn hp hc hcap (by omega) hm
      · exact rfrom_right n ih leaf index path p A c S w hD ho hin hn hp hc hcap (by omega) hm

set_option maxRecDepth 100000 in
set_option maxHeartbeats 1000000 in
theorem rFrom_range (leaf : List UInt8) (ho : leaf.length = 32) (index n : Int) (v : Value) (w : World) (hr : ¬ (1 ≤ n ∧ n ≤ 1048576 ∧ 0 ≤ index ∧ index < n)) :
    Calls Tryd.prog 23 #[digV leaf, .int .i64 index, .int .i64 n, v] w (Same' w (.tuple #[digV zeroL, .int .i64 2])) := by
  have DO : Hid (Dig (digC leaf).toArray) := Dig.of ho
  have HOV : Hid ((Tryd.prog.info? 23).map (·.size) = some (digC leaf).length) := by rw [digC, List.length_map, ho]; exact info32
  have DZ : Hid (Dig (digC zeroL).toArray) := Dig.of zeroL_length
  have CZ : Hid (Tryd.prog.built 23 [] = some (digC zeroL).toArray) := built23
  clear ho
  unfold digV at *
  simp only [show ∀ l : List UInt8, l.map bvI = digC l from fun _ => rfl] at *
  generalize digC leaf = OV at *
  generalize digC zeroL = ZV at *
  by_cases h1 : n < 1
  · have t1 : decide (n < 1) = true := decide_eq_true h1
    go_enter Tryd.func23, Tryd.ntmps23
    go_wp2_with (refine wpList_boxBlk rfl 23 (.tmp 0) rfl _ rfl ?_)
    intro w1 n1
    have N1 := Lib.hid n1
    clear n1
    go_wp2_with (refine wpList_allocBlk rfl 23 rfl zero32 zv32 zero32c rfl ?_)
    intro w2 n2
    have B4 := Lib.hid (N1.out.blk.fr n2.fr (fun x => x))
    have B8 := Lib.hid n2.blk
    have F2 := Lib.hid (N1.out.fr.trans n2.fr)
    have z1 : Hid (w.heap.size < w1.heap.size) := by have := N1.out.size; simp only [Hid]; omega
    clear n2 N1
    generalize h0 : w.heap.size = g4 at *
    have H0 := Lib.hid h0
    clear h0
    generalize w1.heap.size = g8 at *
    go_upto_region 2 with fail
    refine wp_region_lit ?_
    refine wpList_build0 rfl 23 rfl ZV.toArray CZ.out ?_
    refine wpList_storeBlk rfl 23 (.tmp 8) _ rfl g8 ZV.toArray rfl rfl _ _ B8.out DZ.out.infoR DZ.out.zero DZ.out.one ?_
    intro wz b6 f6
    have J8 := Lib.hid b6
    have JF : Hid (Fr Nothing w wz) := F2.out.then_ f6 (fun i hi e => by have e' : i = g8 := e; have := z1.out; have := H0.out; omega)
    clear b6 f6
    go_wp2
    exact bodyPost_ret (results_cell_slot (fn := Tryd.f23) (p := 8) (ty := 23) Tryd.results23 _ wz _ 23 ZV.toArray (0, 0) _ rfl J8.out Tryd.underlying23 rfl DZ.out.infoR _ rfl) rfl ⟨rfl, JF.out⟩
  · have t1 : decide (n < 1) = false := decide_eq_false h1
    by_cases h2 : 1048576 < n
    · have t2 : decide (1048576 < n) = true := decide_eq_true h2
      go_enter Tryd.func23, Tryd.ntmps23
      go_wp2_with (refine wpList_boxBlk rfl 23 (.tmp 0) rfl _ rfl ?_)
      intro w1 n1
      have N1 := Lib.hid n1
      clear n1
      go_wp2_with (refine wpList_allocBlk rfl 23 rfl zero32 zv32 zero32c rfl ?_)
      intro w2 n2
      have B4 := Lib.hid (N1.out.blk.fr n2.fr (fun x => x))
      have B8 := Lib.hid n2.blk
      have F2 := Lib.hid (N1.out.fr.trans n2.fr)
      have z1 : Hid (w.heap.size < w1.heap.size) := by have := N1.out.size; simp only [Hid]; omega
      clear n2 N1
      generalize h0 : w.heap.size = g4 at *
      have H0 := Lib.hid h0
      clear h0
      generalize w1.heap.size = g8 at *
      go_upto_region 2 with fail
      refine wp_region_lit ?_
      refine wpList_build0 rfl 23 rfl ZV.toArray CZ.out ?_
      refine wpList_storeBlk rfl 23 (.tmp 8) _ rfl g8 ZV.toArray rfl rfl _ _ B8.out DZ.out.infoR DZ.out.zero DZ.out.one ?_
      intro wz b6 f6
      have J8 := Lib.hid b6
      have JF : Hid (Fr Nothing w wz) := F2.out.then_ f6 (fun i hi e => by have e' : i = g8 := e; have := z1.out; have := H0.out; omega)
      clear b6 f6
      go_wp2
      exact bodyPost_ret (results_cell_slot (fn := Tryd.f23) (p := 8) (ty := 23) Tryd.results23 _ wz _ 23 ZV.toArray (0, 0) _ rfl J8.out Tryd.underlying23 rfl DZ.out.infoR _ rfl) rfl ⟨rfl, JF.out⟩
    · have t2 : decide (1048576 < n) = false := decide_eq_false h2
      by_cases h3 : index < 0
      · have t3 : decide (index < 0) = true := decide_eq_true h3
        go_enter Tryd.func23, Tryd.ntmps23
        go_wp2_with (refine wpList_boxBlk rfl 23 (.tmp 0) rfl _ rfl ?_)
        intro w1 n1
        have N1 := Lib.hid n1
        clear n1
        go_wp2_with (refine wpList_allocBlk rfl 23 rfl zero32 zv32 zero32c rfl ?_)
        intro w2 n2
        have B4 := Lib.hid (N1.out.blk.fr n2.fr (fun x => x))
        have B8 := Lib.hid n2.blk
        have F2 := Lib.hid (N1.out.fr.trans n2.fr)
        have z1 : Hid (w.heap.size < w1.heap.size) := by have := N1.out.size; simp only [Hid]; omega
        clear n2 N1
        generalize h0 : w.heap.size = g4 at *
        have H0 := Lib.hid h0
        clear h0
        generalize w1.heap.size = g8 at *
        go_upto_region 2 with fail
        refine wp_region_lit ?_
        refine wpList_build0 rfl 23 rfl ZV.toArray CZ.out ?_
        refine wpList_storeBlk rfl 23 (.tmp 8) _ rfl g8 ZV.toArray rfl rfl _ _ B8.out DZ.out.infoR DZ.out.zero DZ.out.one ?_
        intro wz b6 f6
        have J8 := Lib.hid b6
        have JF : Hid (Fr Nothing w wz) := F2.out.then_ f6 (fun i hi e => by have e' : i = g8 := e; have := z1.out; have := H0.out; omega)
        clear b6 f6
        go_wp2
        exact bodyPost_ret (results_cell_slot (fn := Tryd.f23) (p := 8) (ty := 23) Tryd.results23 _ wz _ 23 ZV.toArray (0, 0) _ rfl J8.out Tryd.underlying23 rfl DZ.out.infoR _ rfl) rfl ⟨rfl, JF.out⟩
      · have t3 : decide (index < 0) = false := decide_eq_false h3
        have t4 : decide (n ≤ index) = true := decide_eq_true (by omega)
        go_enter Tryd.func23, Tryd.ntmps23
        go_wp2_with (refine wpList_boxBlk rfl 23 (.tmp 0) rfl _ rfl ?_)
        intro w1 n1
        have N1 := Lib.hid n1
        clear n1
        go_wp2_with (refine wpList_allocBlk rfl 23 rfl zero32 zv32 zero32c rfl ?_)
        intro w2 n2
        have B4 := Lib.hid (N1.out.blk.fr n2.fr (fun x => x))
        have B8 := Lib.hid n2.blk
        have F2 := Lib.hid (N1.out.fr.trans n2.fr)
        have z1 : Hid (w.heap.size < w1.heap.size) := by have := N1.out.size; simp only [Hid]; omega
        clear n2 N1
        generalize h0 : w.heap.size = g4 at *
        have H0 := Lib.hid h0
        clear h0
        generalize w1.heap.size = g8 at *
        go_upto_region 2 with fail
        refine wp_region_lit ?_
        refine wpList_build0 rfl 23 rfl ZV.toArray CZ.out ?_
        refine wpList_storeBlk rfl 23 (.tmp 8) _ rfl g8 ZV.toArray rfl rfl _ _ B8.out DZ.out.infoR DZ.out.zero DZ.out.one ?_
        intro wz b6 f6
        have J8 := Lib.hid b6
        have JF : Hid (Fr Nothing w wz) := F2.out.then_ f6 (fun i hi e => by have e' : i = g8 := e; have := z1.out; have := H0.out; omega)
        clear b6 f6
        go_wp2
        exact bodyPost_ret (results_cell_slot (fn := Tryd.f23) (p := 8) (ty := 23) Tryd.results23 _ wz _ 23 ZV.toArray (0, 0) _ rfl J8.out Tryd.underlying23 rfl DZ.out.infoR _ rfl) rfl ⟨rfl, JF.out⟩

set_option maxRecDepth 100000 in
set_option maxHeartbeats 1000000 in
theorem rFrom_run (leaf : List UInt8) (ho : leaf.length = 32) (index n : Nat) (hin : index < n) (hn : n ≤ 1048576) (path : List (List UInt8)) (p : Nat) (A : Option Addr) (c : Nat) (S : Nat → Prop) (w : World) (hD : DigL w S A p path) (hp : p ≤ c) (hcap : c ≤ 9223372036854775807) :
    Calls Tryd.prog 23 #[digV leaf, .int .i64 index, .int .i64 n, .slice A p c] w (Same' w (.tuple #[digV (nodesV leaf index n path).1, .int .i64 (nodesV leaf index n path).2.2])) := by
  have DO : Hid (Dig (digC leaf).toArray) := Dig.of ho
  have HOV : Hid ((Tryd.prog.info? 23).map (·.size) = some (digC leaf).length) := by rw [digC, List.length_map, ho]; exact info32
  have DZ : Hid (Dig (digC zeroL).toArray) := Dig.of zeroL_length
  have CZ : Hid (Tryd.prog.built 23 [] = some (digC zeroL).toArray) := built23
  have t1 : decide ((n : Int) < 1) = false := decide_eq_false (by omega)
  have t2 : decide ((1048576 : Int) < (n : Int)) = false := decide_eq_false (by omega)
  have t3 : decide ((index : Int) < 0) = false := decide_eq_false (by omega)
  have t4 : decide ((n : Int) ≤ (index : Int)) = false := decide_eq_false (by omega)
  have CL := Lib.hid (fun w => long_any n index w hin hn)
  have hle := stepsL_le n index (by omega)
  unfold nodesV
  rw [if_pos (by omega), Int.toNat_natCast, Int.toNat_natCast, hD.len]
  by_cases hlen : p = (stepsL index n).length
  · have CF : Hid (∀ w', Fr Nothing w w' → Calls Tryd.prog 51 #[digV leaf, .int .i64 index, .int .i64 n, .slice A p c] w' (Same' w' (digV (runF leaf (stepsL index n) path).1))) :=
      fun w' hf => rfrom_any n leaf index path p A c S w' (hD.fr0 hf) ho hin hn hlen hp hcap
    have lr := (runF_ok leaf ho path hD.each _ (stepsL index n) rfl (by rw [hD.len]; omega)).root
    rw [if_pos hlen]
    have t5 : ((p : Int) != ((stepsL index n).length : Nat)) = false := by rw [hlen]; simp
    show Calls _ _ _ _ (Same' w (.tuple #[digV (runF leaf (stepsL index n) path).1, .int .i64 0]))
    generalize (runF leaf (stepsL index n) path).1 = r at *
    have DR : Hid (Dig (digC r).toArray) := Dig.of lr
    generalize (stepsL index n).length = L at *
    clear hD ho lr hlen
    unfold digV at *
    simp only [show ∀ l : List UInt8, l.map bvI = digC l from fun _ => rfl] at *
    generalize digC leaf = OV at *
    generalize digC zeroL = ZV at *
    generalize digC r = RV at *
    go_enter Tryd.func23, Tryd.ntmps23
    go_wp2_with (refine wpList_boxBlk rfl 23 (.tmp 0) rfl _ rfl ?_)
    intro w1 n1
    have N1 := Lib.hid n1
    clear n1
    go_wp2_with (refine wpList_allocBlk rfl 23 rfl zero32 zv32 zero32c rfl ?_)
    intro w2 n2
    have B4 := Lib.hid (N1.out.blk.fr n2.fr (fun x => x))
    have B8 := Lib.hid n2.blk
    have F2 := Lib.hid (N1.out.fr.trans n2.fr)
    have z1 : Hid (w.heap.size < w1.heap.size) := by have := N1.out.size; simp only [Hid]; omega
    clear n2 N1
    generalize h0 : w.heap.size = g4 at *
    have H0 := Lib.hid h0
    clear h0
    generalize w1.heap.size = g8 at *
    go_wp2_with fail
    refine (CL.out _).mono ?_
    rintro e w' ⟨rfl, rfl⟩
    clear CL
    go_wp2_with (refine wpList_loadBlk rfl 23 (.tmp 4) rfl g4 rfl _ OV B4.out _ Tryd.underlying23 rfl HOV.out ?_)
    refine (CF.out _ F2.out).mono ?_
    rintro e w3 ⟨rfl, f3⟩
    have F3 := Lib.hid (F2.out.trans f3)
    have B83 := Lib.hid (B8.out.fr f3 (fun x => x))
    clear f3 CF
    go_wp2_with (refine wpList_storeBlk rfl 23 (.tmp 8) _ rfl g8 RV.toArray rfl rfl _ _ B83.out DR.out.infoR DR.out.zero DR.out.one ?_)
    intro wz b6 f6
    have J8 := Lib.hid b6
    have JF : Hid (Fr Nothing w wz) := F3.out.then_ f6 (fun i hi e => by have e' : i = g8 := e; have := z1.out; have := H0.out; omega)
    clear b6 f6
    go_wp2
    exact bodyPost_ret (results_cell_slot (fn := Tryd.f23) (p := 8) (ty := 23) Tryd.results23 _ wz _ 23 RV.toArray (0, 0) _ rfl J8.out Tryd.underlying23 rfl DR.out.infoR _ rfl) rfl ⟨rfl, JF.out⟩
  · have t5 : ((p : Int) != ((stepsL index n).length : Nat)) = true := by
      rw [bne_iff_ne]
      omega
    rw [if_neg hlen]
    show Calls _ _ _ _ (Same' w (.tuple #[digV zeroL, .int .i64 35]))
    generalize (stepsL index n).length = L at *
    clear hD ho hlen
    unfold digV at *
    simp only [show ∀ l : List UInt8, l.map bvI = digC l from fun _ => rfl] at *
    generalize digC leaf = OV at *
    generalize digC zeroL = ZV at *
    go_enter Tryd.func23, Tryd.ntmps23
    go_wp2_with (refine wpList_boxBlk rfl 23 (.tmp 0) rfl _ rfl ?_)
    intro w1 n1
    have N1 := Lib.hid n1
    clear n1
    go_wp2_with (refine wpList_allocBlk rfl 23 rfl zero32 zv32 zero32c rfl ?_)
    intro w2 n2
    have B4 := Lib.hid (N1.out.blk.fr n2.fr (fun x => x))
    have B8 := Lib.hid n2.blk
    have F2 := Lib.hid (N1.out.fr.trans n2.fr)
    have z1 : Hid (w.heap.size < w1.heap.size) := by have := N1.out.size; simp only [Hid]; omega
    clear n2 N1
    generalize h0 : w.heap.size = g4 at *
    have H0 := Lib.hid h0
    clear h0
    generalize w1.heap.size = g8 at *
    go_wp2_with fail
    refine (CL.out _).mono ?_
    rintro e w' ⟨rfl, rfl⟩
    clear CL
    go_upto_region 4 with fail
    refine wp_region_lit ?_
    refine wpList_build0 rfl 23 rfl ZV.toArray CZ.out ?_
    refine wpList_storeBlk rfl 23 (.tmp 8) _ rfl g8 ZV.toArray rfl rfl _ _ B8.out DZ.out.infoR DZ.out.zero DZ.out.one ?_
    intro wz b6 f6
    have J8 := Lib.hid b6
    have JF : Hid (Fr Nothing w wz) := F2.out.then_ f6 (fun i hi e => by have e' : i = g8 := e; have := z1.out; have := H0.out; omega)
    clear b6 f6
    go_wp2
    exact bodyPost_ret (results_cell_slot (fn := Tryd.f23) (p := 8) (ty := 23) Tryd.results23 _ wz _ 23 ZV.toArray (0, 0) _ rfl J8.out Tryd.underlying23 rfl DZ.out.infoR _ rfl) rfl ⟨rfl, JF.out⟩

theorem rFrom_any (leaf : List UInt8) (ho : leaf.length = 32) (index n : Int) (path : List (List UInt8)) (p : Nat) (A : Option Addr) (c : Nat) (S : Nat → Prop) (w : World) (hD : DigL w S A p path) (hp : p ≤ c) (hcap : c ≤ 9223372036854775807) :
    Calls Tryd.prog 23 #[digV leaf, .int .i64 index, .int .i64 n, .slice A p c] w (Same' w (.tuple #[digV (nodesV leaf index n path).1, .int .i64 (nodesV leaf index n path).2.2])) := by
  by_cases h : 1 ≤ n ∧ n ≤ 1048576 ∧ 0 ≤ index ∧ index < n
  · obtain ⟨n', rfl⟩ : ∃ n' : Nat, n = n' := ⟨n.toNat, by omega⟩
    obtain ⟨i', rfl⟩ : ∃ i' : Nat, index = i' := ⟨index.toNat, by omega⟩
    exact rFrom_run leaf ho i' n' (by omega) (by omega) path p A c S w hD hp hcap
  · have := rFrom_range leaf ho index n (.slice A p c) w h
    unfold nodesV
    rw [if_neg h]
    exact this
end Go.Proofs.YtkaghbpdnmigmaaDoor
