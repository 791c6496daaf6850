/- Several texts in one. -/
import Derived.Test.YtkaghbpdnmigmaaDoorTrJ
import Derived.Test.YtkaghbpdnmigmaaDoorTrK
import Derived.Test.YtkaghbpdnmigmaaDoorLtV
import Derived.Test.YtkaghbpdnmigmaaDoorLtW
/- Tree.Leaf, Tree.Root, the law's same: written by genTrM.py. -/
namespace Go.Proofs.YtkaghbpdnmigmaaDoor
open Go.RowKit

theorem buildD0 : Tryd.prog.built 24 [] = some (digC zeroL).toArray := by kernel_rfl
def leafV (ds : List (List UInt8)) (a : Int) : List UInt8 × Int := if 0 ≤ a ∧ a < ds.length then (ds.getD a.toNat [], 0) else (zeroL, 2)
def rootV (ds : List (List UInt8)) (b : Int) : List UInt8 × Int := if 0 ≤ b ∧ b ≤ ds.length then (rootE (ds.take b.toNat), 0) else (zeroL, 2)
theorem leafV_in (ds : List (List UInt8)) (a : Nat) (h : a < ds.length) : leafV ds a = (ds.getD a [], 0) := by
  unfold leafV
  rw [if_pos (by omega), Int.toNat_natCast]
theorem leafV_out (ds : List (List UInt8)) (a : Int) (h : ¬ (0 ≤ a ∧ a < ds.length)) : leafV ds a = (zeroL, 2) := by
  unfold leafV
  rw [if_neg h]
theorem rootV_in (ds : List (List UInt8)) (a : Nat) (h : a ≤ ds.length) : rootV ds a = (rootE (ds.take a), 0) := by
  unfold rootV
  rw [if_pos (by omega), Int.toNat_natCast]
theorem rootV_out (ds : List (List UInt8)) (a : Int) (h : ¬ (0 ≤ a ∧ a ≤ ds.length)) : rootV ds a = (zeroL, 2) := by
  unfold rootV
  rw [if_neg h]

set_option maxRecDepth 100000 in
set_option maxHeartbeats 2000000 in
theorem Leaf_out (w0 w : World) (p : Nat) (ds : List (List UInt8)) (a : Int) (hT : TreeN w0 w p ds) (hn : ds.length ≤ 1048576) (hr : ¬ (0 ≤ a ∧ a < ds.length)) (_hS : ShaTab w) :
    Calls Tryd.prog 31 #[.pointer (some ⟨p, 0, none⟩), .int .i64 a] w (Same' w (.tuple #[digV zeroL, .int .i64 2])) := by
  obtain ⟨A, c, mb, h1, h2, h3⟩ := hT
  obtain ⟨n, hnn⟩ : ∃ n, n = ds.length := ⟨_, rfl⟩
  have P0 : w.cell? ⟨p, 0, none⟩ = some (.slice A n c) := by rw [hnn]; exact h1.blk.cell 0
  have n4 : n ≤ 1048576 := by omega
  obtain ⟨n1, hn1⟩ : ∃ n1 : Int, (n : Int) - 1 = n1 := ⟨_, rfl⟩
  have C1 : Hid (∀ w', Calls Tryd.prog 52 #[.int .i64 a, .int .i64 0, .int .i64 n1] w' (SameW w' (.bool (decide (0 ≤ a ∧ a ≤ n1))))) := fun w' => within_any a 0 n1 w'
  rw [decide_eq_false (show ¬ (0 ≤ a ∧ a ≤ n1) by omega)] at C1
  have DZ : Hid (Dig (digC zeroL).toArray) := Dig.of zeroL_length
  have BZ : Hid (Tryd.prog.built 24 [] = some (digC zeroL).toArray) := buildD0
  unfold digV
  simp only [show ∀ l : List UInt8, l.map bvI = digC l from fun _ => rfl]
  generalize digC zeroL = ZV at *
  clear h1 h2 h3 _hS hnn hr
  go_enter Tryd.func31, Tryd.ntmps31
  go_wp2_with (refine wpList_allocBlk rfl 24 rfl zero32 zvD zero32c rfl ?_)
  intro w1 nn1
  have N1 := Lib.hid nn1
  have P1 : w1.cell? ⟨p, 0, none⟩ = some (.slice A n c) := nn1.fr.cellSome P0 (fun x => x)
  clear nn1 P0
  go_wp2_with fail
  refine (C1.out _).mono ?_
  rintro e w' ⟨rfl, rfl⟩
  go_wp2_with (first | (refine wpList_build0 rfl 24 rfl ZV.toArray BZ.out ?_) | (refine wpList_storeBlk rfl 24 (.tmp 4) _ rfl w.heap.size ZV.toArray rfl rfl _ _ N1.out.blk DZ.out.info DZ.out.zero DZ.out.one ?_))
  intro wz b5 f5
  have J4 := Lib.hid b5
  have JF : Hid (Fr Nothing w wz) := N1.out.fr.then_ f5 (fun i hi e => by have e' : i = w.heap.size := e; omega)
  clear b5 f5
  go_wp2
  exact bodyPost_ret (results_cell_slot (fn := Tryd.f31) (p := 4) (q := 5) (ty := 24) Tryd.results31 _ wz _ 24 ZV.toArray (0, 0) _ rfl J4.out Tryd.underlying24 rfl DZ.out.info _ rfl) rfl ⟨rfl, JF.out⟩

set_option maxRecDepth 100000 in
set_option maxHeartbeats 2000000 in
theorem Root_out (w0 w : World) (p : Nat) (ds : List (List UInt8)) (a : Int) (hT : TreeN w0 w p ds) (hn : ds.length ≤ 1048576) (hr : ¬ (0 ≤ a ∧ a ≤ ds.length)) (_hS : ShaTab w) :
    Calls Tryd.prog 32 #[.pointer (some ⟨p, 0, none⟩), .int .i64 a] w (Same' w (.tuple #[digV zeroL, .int .i64 2])) := by
  obtain ⟨A, c, mb, h1, h2, h3⟩ := hT
  obtain ⟨n, hnn⟩ : ∃ n, n = ds.length := ⟨_, rfl⟩
  have P0 : w.cell? ⟨p, 0, none⟩ = some (.slice A n c) := by rw [hnn]; exact h1.blk.cell 0
  have n4 : n ≤ 1048576 := by omega
  have C1 : Hid (∀ w', Calls Tryd.prog 52 #[.int .i64 a, .int .i64 0, .int .i64 n] w' (SameW w' (.bool (decide (0 ≤ a ∧ a ≤ n))))) := fun w' => within_any a 0 n w'
  rw [decide_eq_false (show ¬ (0 ≤ a ∧ a ≤ n) by omega)] at C1
  have DZ : Hid (Dig (digC zeroL).toArray) := Dig.of zeroL_length
  have BZ : Hid (Tryd.prog.built 24 [] = some (digC zeroL).toArray) := buildD0
  unfold digV
  simp only [show ∀ l : List UInt8, l.map bvI = digC l from fun _ => rfl]
  generalize digC zeroL = ZV at *
  clear h1 h2 h3 _hS hnn hr
  go_enter Tryd.func32, Tryd.ntmps32
  go_wp2_with (refine wpList_allocBlk rfl 24 rfl zero32 zvD zero32c rfl ?_)
  intro w1 nn1
  have N1 := Lib.hid nn1
  have P1 : w1.cell? ⟨p, 0, none⟩ = some (.slice A n c) := nn1.fr.cellSome P0 (fun x => x)
  clear nn1 P0
  go_wp2_with fail
  refine (C1.out _).mono ?_
  rintro e w' ⟨rfl, rfl⟩
  go_wp2_with (first | (refine wpList_build0 rfl 24 rfl ZV.toArray BZ.out ?_) | (refine wpList_storeBlk rfl 24 (.tmp 4) _ rfl w.heap.size ZV.toArray rfl rfl _ _ N1.out.blk DZ.out.info DZ.out.zero DZ.out.one ?_))
  intro wz b5 f5
  have J4 := Lib.hid b5
  have JF : Hid (Fr Nothing w wz) := N1.out.fr.then_ f5 (fun i hi e => by have e' : i = w.heap.size := e; omega)
  clear b5 f5
  go_wp2
  exact bodyPost_ret (results_cell_slot (fn := Tryd.f32) (p := 4) (q := 5) (ty := 24) Tryd.results32 _ wz _ 24 ZV.toArray (0, 0) _ rfl J4.out Tryd.underlying24 rfl DZ.out.info _ rfl) rfl ⟨rfl, JF.out⟩

set_option maxRecDepth 100000 in
set_option maxHeartbeats 2000000 in
theorem Leaf_in (w0 w : World) (p : Nat) (ds : List (List UInt8)) (a : Nat) (hT : TreeN w0 w p ds) (hn : ds.length ≤ 1048576) (hr : a < ds.length) :
    Calls Tryd.prog 31 #[.pointer (some ⟨p, 0, none⟩), .int .i64 a] w (Same' w (.tuple #[digV (ds.getD a []), .int .i64 0])) := by
  obtain ⟨A, c, mb, h1, h2, h3⟩ := hT
  obtain ⟨n, hnn⟩ : ∃ n, n = ds.length := ⟨_, rfl⟩
  have P0 : w.cell? ⟨p, 0, none⟩ = some (.slice A n c) := by rw [hnn]; exact h1.blk.cell 0
  have n4 : n ≤ 1048576 := by omega
  obtain ⟨n1, hn1⟩ : ∃ n1 : Nat, (n : Int) - 1 = n1 := ⟨n - 1, by omega⟩
  have C1 : Hid (∀ w', Calls Tryd.prog 52 #[.int .i64 a, .int .i64 0, .int .i64 n1] w' (SameW w' (.bool (decide (0 ≤ (a : Int) ∧ (a : Int) ≤ n1))))) := fun w' => within_any a 0 n1 w'
  rw [decide_eq_true (show 0 ≤ (a : Int) ∧ (a : Int) ≤ n1 by omega)] at C1
  obtain ⟨ad, d, rfl, _, hd, hd32, hcell⟩ := h1.dig.at_ hr
  have hg : ds.getD a [] = d := by rw [List.getD_eq_getElem?_getD, hd]; rfl
  rw [hg]
  have DP : Hid (Dig (digC d).toArray) := Dig.of hd32
  have IV : Hid ((Tryd.prog.info? 24).map (·.size) = some (digC d).length) := by rw [digC, List.length_map, hd32]; exact infoD
  have HC := Lib.hid hcell
  have a4 : a ≤ 1048576 := by omega
  have hI : (a : Int) < (n : Int) := by omega
  unfold digV
  simp only [show ∀ l : List UInt8, l.map bvI = digC l from fun _ => rfl]
  generalize digC d = DV at *
  clear h1 h2 h3 hnn hr hd hd32 hg hcell
  go_enter Tryd.func31, Tryd.ntmps31
  go_wp2_with (refine wpList_allocBlk rfl 24 rfl zero32 zvD zero32c rfl ?_)
  intro w1 nn1
  have N1 := Lib.hid nn1
  have P1 : w1.cell? ⟨p, 0, none⟩ = some (.slice (some ad) n c) := nn1.fr.cellSome P0 (fun x => x)
  have HC1 : Hid (∀ j v, DV[j]? = some v → w1.cell? ((ad.add (a * 32)).add j) = some v) := fun j v hv => nn1.fr.cellSome (HC.out j v hv) (fun x => x)
  clear nn1 P0
  go_wp2_with fail
  refine (C1.out _).mono ?_
  rintro e w' ⟨rfl, rfl⟩
  go_wp2_with (refine wpList_load_add rfl 24 (.tmp 26) rfl _ rfl DV _ ?hcc Tryd.underlying24 rfl IV.out (Held.go ?hold))
  case hcc => exact HC1.out
  unfold Held
  go_wp2_with (refine wpList_storeBlk rfl 24 (.tmp 4) _ rfl w.heap.size DV.toArray rfl rfl _ _ N1.out.blk DP.out.info DP.out.zero DP.out.one ?_)
  intro wz b5 f5
  have J4 := Lib.hid b5
  have JF : Hid (Fr Nothing w wz) := N1.out.fr.then_ f5 (fun i hi e => by have e' : i = w.heap.size := e; omega)
  clear b5 f5
  go_wp2
  exact bodyPost_ret (results_cell_slot (fn := Tryd.f31) (p := 4) (q := 5) (ty := 24) Tryd.results31 _ wz _ 24 DV.toArray (0, 0) _ rfl J4.out Tryd.underlying24 rfl DP.out.info _ rfl) rfl ⟨rfl, JF.out⟩

set_option maxRecDepth 100000 in
set_option maxHeartbeats 2000000 in
theorem Root_in (w0 w : World) (p : Nat) (ds : List (List UInt8)) (a : Nat) (hT : TreeN w0 w p ds) (hn : ds.length ≤ 1048576) (hr : a ≤ ds.length) (hS : ShaTab w) :
    Calls Tryd.prog 32 #[.pointer (some ⟨p, 0, none⟩), .int .i64 a] w (Same' w (.tuple #[digV (rootE (ds.take a)), .int .i64 0])) := by
  obtain ⟨A, c, mb, h1, h2, h3⟩ := hT
  obtain ⟨n, hnn⟩ : ∃ n, n = ds.length := ⟨_, rfl⟩
  have P0 : w.cell? ⟨p, 0, none⟩ = some (.slice A n c) := by rw [hnn]; exact h1.blk.cell 0
  have n4 : n ≤ 1048576 := by omega
  have C1 : Hid (∀ w', Calls Tryd.prog 52 #[.int .i64 a, .int .i64 0, .int .i64 n] w' (SameW w' (.bool (decide (0 ≤ (a : Int) ∧ (a : Int) ≤ n))))) := fun w' => within_any a 0 n w'
  rw [decide_eq_true (show 0 ≤ (a : Int) ∧ (a : Int) ≤ n by omega)] at C1
  have lr : (rootE (ds.take a)).length = 32 := rootE_length a _ (by rw [List.length_take]; omega) (by omega) (fun d hd => h1.each d (List.mem_of_mem_take hd))
  have CE : Hid (a = 0 → ∀ w', Fr Nothing w w' → Calls Tryd.prog 19 #[] w' (Same' w' (digV (rootE (ds.take a))))) := fun h w' hf => by
    rw [h, List.take_zero]
    exact Empty_any w' (hS.fr0 hf)
  have CR : Hid (¬ a = 0 → ∀ w', Fr Nothing w w' → Calls Tryd.prog 61 #[.pointer (some ⟨p, 0, none⟩), .int .i64 0, .int .i64 a] w' (Same' w' (digV (rootE (ds.take a))))) := fun h w' hf => by
    have k := root_at a (by omega) w' p A ds.length c mb ds (partC ds.length) 0 20 (h1.fr0 hf) (partC_full _) hn (hS.fr0 hf) (by omega) (by omega) (by omega) (Nat.dvd_zero _)
    rw [List.drop_zero] at k
    have e : rootE (ds.take a) = rootL (ds.take a) := by
      unfold rootE
      rw [if_neg (by intro h0; have := congrArg List.length h0; rw [List.length_take, List.length_nil] at this; omega)]
    rw [e]
    exact k
  generalize rootE (ds.take a) = rt at *
  have DP : Hid (Dig (digC rt).toArray) := Dig.of lr
  have a4 : a ≤ 1048576 := by omega
  unfold digV at *
  simp only [show ∀ l : List UInt8, l.map bvI = digC l from fun _ => rfl] at *
  generalize digC rt = DV at *
  clear h1 h2 h3 hnn hr lr hS
  by_cases h0 : a = 0
  · have CE2 := Lib.hid (CE.out h0)
    have t0 : ((a : Int) == 0) = true := by rw [h0]; rfl
    subst h0
    clear CE CR
    go_enter Tryd.func32, Tryd.ntmps32
    go_wp2_with (refine wpList_allocBlk rfl 24 rfl zero32 zvD zero32c rfl ?_)
    intro w1 nn1
    have N1 := Lib.hid nn1
    have P1 : w1.cell? ⟨p, 0, none⟩ = some (.slice A n c) := nn1.fr.cellSome P0 (fun x => x)
    clear nn1 P0
    go_wp2_with fail
    refine (C1.out _).mono ?_
    rintro e w' ⟨rfl, rfl⟩
    go_wp2_with fail
    refine (CE2.out _ N1.out.fr).mono ?_
    rintro e w2 ⟨rfl, f2⟩
    have F2 := Lib.hid (N1.out.fr.trans f2)
    have B2 := Lib.hid (N1.out.blk.fr f2 (fun x => x))
    clear f2 N1
    go_wp2_with (refine wpList_storeBlk rfl 24 (.tmp 4) _ rfl w.heap.size DV.toArray rfl rfl _ _ B2.out DP.out.info DP.out.zero DP.out.one ?_)
    intro wz b5 f5
    have J4 := Lib.hid b5
    have JF : Hid (Fr Nothing w wz) := F2.out.then_ f5 (fun i hi e => by have e' : i = w.heap.size := e; omega)
    clear b5 f5
    go_wp2
    exact bodyPost_ret (results_cell_slot (fn := Tryd.f32) (p := 4) (q := 5) (ty := 24) Tryd.results32 _ wz _ 24 DV.toArray (0, 0) _ rfl J4.out Tryd.underlying24 rfl DP.out.info _ rfl) rfl ⟨rfl, JF.out⟩
  · have CR2 := Lib.hid (CR.out h0)
    have t0 : ((a : Int) == 0) = false := by rw [beq_eq_false_iff_ne]; omega
    have t02 : ¬ a = 0 := h0
    clear CE CR
    go_enter Tryd.func32, Tryd.ntmps32
    go_wp2_with (refine wpList_allocBlk rfl 24 rfl zero32 zvD zero32c rfl ?_)
    intro w1 nn1
    have N1 := Lib.hid nn1
    have P1 : w1.cell? ⟨p, 0, none⟩ = some (.slice A n c) := nn1.fr.cellSome P0 (fun x => x)
    clear nn1 P0
    go_wp2_with fail
    refine (C1.out _).mono ?_
    rintro e w' ⟨rfl, rfl⟩
    go_wp2_with fail
    refine (CR2.out _ N1.out.fr).mono ?_
    rintro e w2 ⟨rfl, f2⟩
    have F2 := Lib.hid (N1.out.fr.trans f2)
    have B2 := Lib.hid (N1.out.blk.fr f2 (fun x => x))
    clear f2 N1
    go_wp2_with (refine wpList_storeBlk rfl 24 (.tmp 4) _ rfl w.heap.size DV.toArray rfl rfl _ _ B2.out DP.out.info DP.out.zero DP.out.one ?_)
    intro wz b5 f5
    have J4 := Lib.hid b5
    have JF : Hid (Fr Nothing w wz) := F2.out.then_ f5 (fun i hi e => by have e' : i = w.heap.size := e; omega)
    clear b5 f5
    go_wp2
    exact bodyPost_ret (results_cell_slot (fn := Tryd.f32) (p := 4) (q := 5) (ty := 24) Tryd.results32 _ wz _ 24 DV.toArray (0, 0) _ rfl J4.out Tryd.underlying24 rfl DP.out.info _ rfl) rfl ⟨rfl, JF.out⟩

theorem Leaf_of (w0 w : World) (p : Nat) (ds : List (List UInt8)) (a : Int) (hT : TreeN w0 w p ds) (hn : ds.length ≤ 1048576) (hS : ShaTab w) :
    Calls Tryd.prog 31 #[.pointer (some ⟨p, 0, none⟩), .int .i64 a] w (Same' w (.tuple #[digV (leafV ds a).1, .int .i64 (leafV ds a).2])) := by
  by_cases h : 0 ≤ a ∧ a < ds.length
  · obtain ⟨k, rfl⟩ : ∃ k : Nat, a = k := ⟨a.toNat, by omega⟩
    rw [leafV_in ds k (by omega)]
    exact Leaf_in w0 w p ds k hT hn (by omega)
  · rw [leafV_out ds a h]
    exact Leaf_out w0 w p ds a hT hn h hS
theorem Root_of (w0 w : World) (p : Nat) (ds : List (List UInt8)) (a : Int) (hT : TreeN w0 w p ds) (hn : ds.length ≤ 1048576) (hS : ShaTab w) :
    Calls Tryd.prog 32 #[.pointer (some ⟨p, 0, none⟩), .int .i64 a] w (Same' w (.tuple #[digV (rootV ds a).1, .int .i64 (rootV ds a).2])) := by
  by_cases h : 0 ≤ a ∧ a ≤ ds.length
  · obtain ⟨k, rfl⟩ : ∃ k : Nat, a = k := ⟨a.toNat, by omega⟩
    rw [rootV_in ds k (by omega)]
    exact Root_in w0 w p ds k hT hn (by omega) hS
  · rw [rootV_out ds a h]
    exact Root_out w0 w p ds a hT hn h hS

set_option maxRecDepth 100000 in
set_option maxHeartbeats 2000000 in
theorem same_any (n : Nat) (ds : List (List UInt8)) (A B : Option Addr) (c c2 : Nat) (S S2 : Nat → Prop) (w : World) (hD : DigL w S A n ds) (hE : DigL w S2 B n ds) (hn : n ≤ 1048576) :
    Calls Tryd.prog 34 #[.slice A n c, .slice B n c2] w (Same' w (.bool true)) := by
  have HD := Lib.hid hD
  have HE := Lib.hid hE
  clear hD hE
  go_enter Tryd.func34, Tryd.ntmps34
  go_wp2
  go_loopw [5] (fun i wr => ∃ k : Nat, k ≤ n ∧ i = .int .i64 k ∧ Fr Nothing w wr) (fun i _ => n - (intOf i).toNat)
  case atStart => exact ⟨0, Nat.zero_le _, rfl, Fr.refl _ _⟩
  case round =>
    obtain ⟨k, hk, rfl, hf⟩ := hrel
    have HF := Lib.hid hf
    clear hf
    by_cases hlt : k < n
    · obtain ⟨ad, d, rfl, _, hd, hd32, hcell⟩ := (HD.out.fr0 HF.out).at_ hlt
      obtain ⟨ae, d', rfl, _, hd', _, hcell'⟩ := (HE.out.fr0 HF.out).at_ hlt
      obtain rfl : d = d' := by rw [hd] at hd'; exact Option.some.inj hd'
      have HCA := Lib.hid hcell
      have HCB := Lib.hid hcell'
      have IV : Hid ((Tryd.prog.info? 23).map (·.size) = some (digC d).length) := by rw [digC, List.length_map, hd32]; exact info32
      have qn : Hid (∀ w : World, (binOp .neq 23 (digV d) (digV d)).run Tryd.prog w = .ok (.bool false) w) := fun w => by
        rw [run_neD w _ Tryd.underlying23 _ _ hd32 hd32, decide_eq_true rfl]
        rfl
      have hI : (k : Int) < (n : Int) := by omega
      unfold digV at qn
      simp only [show ∀ l : List UInt8, l.map bvI = digC l from fun _ => rfl] at qn
      generalize digC d = DV at *
      clear hd hd32 hcell hd' hcell'
      go_upto_region 6 with fail
      refine wp_region_st 9 Nothing [Is (.slice (some ad) n c), Is (.int .i64 k), Is (.pointer (some (ad.add (k * 32)))), Is (.agg DV.toArray), Is (.slice (some ae) n c2), Is (.int .i64 k), Is (.pointer (some (ae.add (k * 32)))), Is (.agg DV.toArray), Is (.bool false)] [] (fun _ => True) (fun _ _ => false) (by kernel_rfl) (by kernel_rfl) (by kernel_rfl) (by kernel_rfl) ⟨Is.stable _, Is.stable _, Is.stable _, Is.stable _, Is.stable _, Is.stable _, Is.stable _, Is.stable _, Is.stable _, trivial⟩ trivial (fun _ _ _ _ h => h) trivial ?_ ?_
      · refine ⟨fun u w' d hf hR k1 k0 kM => ?_, fun u w' d hf hR k1 k0 kM => ?_, fun u w' d hf hR k1 k0 kM => ?_, fun u w' d hf hR k1 k0 kM => ?_, fun u w' d hf hR k1 k0 kM => ?_, fun u w' d hf hR k1 k0 kM => ?_, fun u w' d hf hR k1 k0 kM => ?_, fun u w' d hf hR k1 k0 kM => ?_, fun u w' d hf hR k1 k0 kM => ?_, trivial⟩
        all_goals simp only [List.take_succ_cons, List.take_zero, List.map_cons, List.map_nil, puts, Act.put, List.setIfInBounds_toArray, List.set_cons_zero, List.set_cons_succ, Nat.reduceAdd, Nat.zero_add]
        · clear hR k1 k0 kM
          refine .inl ⟨by kernel_rfl, ?_⟩
          go_simp
          exact ⟨_, rfl, Fr.refl _ _, rfl, trivial⟩
        · clear hR k1 k0 kM
          refine .inl ⟨by kernel_rfl, ?_⟩
          go_simp
          exact ⟨_, rfl, Fr.refl _ _, rfl, trivial⟩
        · have h0 : u 0 = _ := hR 0 (by kernel_rfl)
          have h1 : u 1 = _ := hR 1 (by kernel_rfl)
          clear hR k1 k0 kM
          simp only [h0, h1]
          refine .inl ⟨by kernel_rfl, ?_⟩
          go_simp
          exact ⟨_, rfl, Fr.refl _ _, rfl, trivial⟩
        · have h2 : u 2 = _ := hR 2 (by kernel_rfl)
          clear hR k1 k0 kM
          simp only [h2]
          refine .inl ⟨by kernel_rfl, ?_⟩
          exact wp_load_add _ _ rfl (ad.add (k * 32)) rfl DV _ (fun j v hv => hf.cellSome (HCA.out j v hv) (fun x => x)) Tryd.underlying23 rfl IV.out ⟨_, rfl, Fr.refl _ _, rfl, trivial⟩
        · clear hR k1 k0 kM
          refine .inl ⟨by kernel_rfl, ?_⟩
          go_simp
          exact ⟨_, rfl, Fr.refl _ _, rfl, trivial⟩
        · clear hR k1 k0 kM
          refine .inl ⟨by kernel_rfl, ?_⟩
          go_simp
          exact ⟨_, rfl, Fr.refl _ _, rfl, trivial⟩
        · have h4 : u 4 = _ := hR 4 (by kernel_rfl)
          have h5 : u 5 = _ := hR 5 (by kernel_rfl)
          clear hR k1 k0 kM
          simp only [h4, h5]
          refine .inl ⟨by kernel_rfl, ?_⟩
          go_simp
          exact ⟨_, rfl, Fr.refl _ _, rfl, trivial⟩
        · have h6 : u 6 = _ := hR 6 (by kernel_rfl)
          clear hR k1 k0 kM
          simp only [h6]
          refine .inl ⟨by kernel_rfl, ?_⟩
          exact wp_load_add _ _ rfl (ae.add (k * 32)) rfl DV _ (fun j v hv => hf.cellSome (HCB.out j v hv) (fun x => x)) Tryd.underlying23 rfl IV.out ⟨_, rfl, Fr.refl _ _, rfl, trivial⟩
        · have h3 : u 3 = _ := hR 3 (by kernel_rfl)
          have h7 : u 7 = _ := hR 7 (by kernel_rfl)
          clear hR k1 k0 kM
          simp only [h3, h7]
          refine .inl ⟨by kernel_rfl, ?_⟩
          exact wp_binAgg _ _ _ _ _ rfl _ _ rfl rfl Tryd.eqGuardType23 _ (qn.out _) ⟨_, rfl, Fr.refl _ _, rfl, trivial⟩
      · intro u w' hf hR kM
        have h8 : u 8 = _ := hR 8 (by omega)
        clear hR kM
        simp only [List.take_succ_cons, List.take_zero, List.map_cons, List.map_nil, puts, Act.put, List.setIfInBounds_toArray, List.set_cons_zero, List.set_cons_succ, List.drop_succ_cons, List.drop_zero, Nat.reduceAdd, Nat.zero_add, h8]
        have FB := Lib.hid (HF.out.trans hf)
        clear hf HCA HCB
        go_wp2
        go_roundw
        case rel => exact ⟨k + 1, by omega, by go_num, FB.out⟩
        case measure => simp [intOf]; omega
    · obtain rfl : k = n := by omega
      go_wp2
      go_ret
      exact ⟨rfl, HF.out⟩
end Go.Proofs.YtkaghbpdnmigmaaDoor

/- The reference's Path, extension, Extension: written by genTrN.py. -/
namespace Go.Proofs.YtkaghbpdnmigmaaDoor
open Go.RowKit

/-- A list of digests that was made since w. -/
def PathF (w : World) (PL : List (List UInt8)) (v : Value) (w' : World) : Prop := ∃ v1, v = v1 ∧ Grew 23 32 w (.slice none 0 0) w' v1 PL.length (PL.flatMap digC)
theorem PathF.stable {w W : World} {PL : List (List UInt8)} : ∀ v w' w'', Fr Nothing W w' → Fr Nothing w' w'' → PathF w PL v w' → PathF w PL v w'' := fun _ _ _ _ hf ⟨v1, h, hG⟩ => ⟨v1, h, hG.behind hf⟩

def RPath (n : Nat) : Prop := ∀ (ds : List (List UInt8)) (A : Option Addr) (c : Nat) (S : Nat → Prop) (w : World) (i : Nat), DigL w S A n ds → i < n → n ≤ 1048576 → n ≤ c → c ≤ 9223372036854775807 →
  Calls Tryd.prog 37 #[.slice A n c, .int .i64 i] w (Owned32 w (pathL (ds) i).length (pathL (ds) i))

set_option maxRecDepth 100000 in
set_option maxHeartbeats 4000000 in
theorem rpath_more (n : Nat) (ih : ∀ j, j < n → RPath j) (ds : List (List UInt8)) (A : Option Addr) (c : Nat) (S : Nat → Prop) (w : World) (i : Nat) (hD : DigL w S A n ds) (h2 : 2 ≤ n) (hin : i < n) (hn : n ≤ 1048576) (hc : n ≤ c) (hcap : c ≤ 9223372036854775807) :
    Calls Tryd.prog 37 #[.slice A n c, .int .i64 i] w (Owned32 w (pathL (ds) i).length (pathL (ds) i)) := by
  obtain ⟨i0, hi0, hz0, hz1, hz2⟩ := info_parts info_D32'
  obtain ⟨kb, _, k1⟩ := leftN_bounds n (by omega) (by omega)
  have CS := Lib.hid (fun w => Left_any n w (by omega) (by omega))
  obtain ⟨ad, hA, _⟩ := hD.rd.2 (by omega)
  subst hA
  have eP := pathL_more ds i n hD.len h2 (by omega)
  generalize leftN n = k at *
  have CUT : Hid (∀ w', Fr Nothing w w' → DigL w' S (some (ad.add (k * 32))) (n - k) (ds.drop k)) := fun w' hf => by
    have h := (hD.cut (k := k) (cap := c) (by omega) hc).fr0 hf
    rw [if_neg (by omega)] at h
    exact h
  have TAK : Hid (∀ w', Fr Nothing w w' → DigL w' S (some ad) k (ds.take k)) := fun w' hf => (hD.take (by omega)).fr0 hf
  have lL := rootL_length k (ds.take k) (by rw [List.length_take, hD.len]; omega) k1 (by omega) (fun d hd => hD.each d (List.mem_of_mem_take hd))
  have lR := rootL_length (n - k) (ds.drop k) (by rw [List.length_drop, hD.len]) (by omega) (by omega) (fun d hd => hD.each d (List.mem_of_mem_drop hd))
  have dl1 : (ds.take k).length = k := by rw [List.length_take, hD.len]; omega
  have dl2 : (ds.drop k).length = n - k := by rw [List.length_drop, hD.len]
  obtain ⟨n2, hn2⟩ : ∃ n2 : Nat, n2 = n - k := ⟨_, rfl⟩
  obtain ⟨c2, hc2⟩ : ∃ c2 : Nat, c2 = c - k := ⟨_, rfl⟩
  rw [← hn2] at CUT dl2
  have s2 : c - k = c2 := hc2.symm
  have s1 : n - k = n2 := hn2.symm
  have i4 : i ≤ 1048576 := by omega
  have k4 : k ≤ 1048576 := by omega
  have b1 : (k : Int) ≤ (c : Int) := by omega
  have b2 : (k : Int) ≤ (n : Int) := by omega
  have b3 : ¬ c = k := by omega
  have b4 : (n : Int) ≤ (c : Int) := by omega
  have g1 : Hid (¬ 1 * i0.size > 2 ^ 24) := by simp only [Hid]; rw [hz1]; omega
  have g2 : Hid (¬ 1 * i0.size = 0) := by simp only [Hid]; rw [hz1]; omega
  have t1 : ((n : Int) == 1) = false := by rw [beq_eq_false_iff_ne]; omega
  have t2 : ¬ n = 1 := by omega
  have l20 : ∀ (l : List (List UInt8)) (j : Nat), l.length ≤ 1048576 → (pathL l j).length ≤ 20 := fun l j h => pathL_depth 20 l j h h
  by_cases hik : i < k
  · rw [eP, if_pos hik]
    have iI : (i : Int) < (k : Int) := by omega
    have CI : Hid (∀ w', Fr Nothing w w' → Calls Tryd.prog 37 #[.slice (some ad) k c, .int .i64 i] w' (Owned32 w' (pathL (ds.take k) i).length (pathL (ds.take k) i))) := fun w' hf => ih k kb (ds.take k) _ c S w' i (TAK.out w' hf) hik (by omega) (by omega) hcap
    have CR : Hid (∀ w', Fr Nothing w w' → Calls Tryd.prog 21 #[.slice (some (ad.add (k * 32))) n2 c2] w' (Same' w' (digV (rootL (ds.drop k))))) := fun w' hf => rRoot_any n2 (ds.drop k) _ c2 S w' (CUT.out w' hf) (by omega) (by omega) (by omega) (by omega)
    have lr := lR
    have lp := l20 (ds.take k) i (by omega)
    generalize pathL (ds.take k) i = PL at *
    generalize rootL (ds.drop k) = RT at *
    have HF : Hid (Instr.fill (fun i => some (i * 32, 32)) ((Array.range (1 * 32)).map (zero32.cells[· % zero32.cells.size]!)) [(0, .agg (digC RT).toArray)] = some (digC RT).toArray) := fill_one _ _ (by simp [digC, lr]) (by simp)
    have HL : Hid ((digC RT).toArray.size = 1 * 32) := by simp [Hid, digC, lr]
    have HO : Hid (∀ u ∈ (digC RT).toArray.toList, u.oneCell' = true) := by
      intro u hu
      exact oneCell_bvI _ u (by simpa [digC] using hu)
    have HT2 : Hid ((PL ++ [RT]).flatMap digC = PL.flatMap digC ++ digC RT ∧ (PL ++ [RT]).length = PL.length + 1) := ⟨by rw [List.flatMap_append, List.flatMap_singleton], by simp⟩
    unfold digV at CR
    simp only [show ∀ l : List UInt8, l.map bvI = digC l from fun _ => rfl] at CR
    generalize digC RT = RV at *
    have g3 : Hid (Instr.fill (fun i => some (i * i0.size, i0.size)) ((Array.range (1 * i0.size)).map (zero32.cells[· % zero32.cells.size]!)) [(0, .agg RV.toArray)] = some RV.toArray) := by simp only [Hid]; rw [hz1]; exact HF.out
    clear CUT TAK lL lR lr dl1 dl2 hn2 hc2 kb k1 hn hc hcap hin ih hD eP l20 h2
    go_enter Tryd.func37, Tryd.ntmps37
    go_wp2_with fail
    refine (CS.out _).mono ?_
    rintro e w' ⟨rfl, rfl⟩
    clear CS
    go_upto_region 5 with fail
    refine wp_region_st 9 Nothing [Is (.slice (some ad) n c), Is (.int .i64 k), Is (.slice (some ad) k c), Is (.int .i64 i), PathF w PL, Is (.slice (some ad) n c), Is (.int .i64 k), Is (.slice (some (ad.add (k * 32))) n2 c2), Is (.agg RV.toArray)] [] (fun _ => True) (fun _ _ => false) (by kernel_rfl) (by kernel_rfl) (by kernel_rfl) (by kernel_rfl) ⟨Is.stable _, Is.stable _, Is.stable _, Is.stable _, PathF.stable, Is.stable _, Is.stable _, Is.stable _, Is.stable _, trivial⟩ trivial (fun _ _ _ _ h => h) trivial ?_ ?_
    · refine ⟨fun u w' d hf hR k1 k0 kM => ?_, fun u w' d hf hR k1 k0 kM => ?_, fun u w' d hf hR k1 k0 kM => ?_, fun u w' d hf hR k1 k0 kM => ?_, fun u w' d hf hR k1 k0 kM => ?_, fun u w' d hf hR k1 k0 kM => ?_, fun u w' d hf hR k1 k0 kM => ?_, fun u w' d hf hR k1 k0 kM => ?_, fun u w' d hf hR k1 k0 kM => ?_, trivial⟩
      all_goals simp only [List.take_succ_cons, List.take_zero, List.map_cons, List.map_nil, puts, Act.put, List.setIfInBounds_toArray, List.set_cons_zero, List.set_cons_succ, Nat.reduceAdd, Nat.zero_add]
      · clear hR k1 k0 kM
        refine .inl ⟨by kernel_rfl, ?_⟩
        go_simp
        exact ⟨_, rfl, Fr.refl _ _, rfl, trivial⟩
      · clear hR k1 k0 kM
        refine .inl ⟨by kernel_rfl, ?_⟩
        go_simp
        exact ⟨_, rfl, Fr.refl _ _, rfl, trivial⟩
      · have h0 : u 0 = _ := hR 0 (by kernel_rfl)
        have h1 : u 1 = _ := hR 1 (by kernel_rfl)
        clear hR k1 k0 kM
        simp only [h0, h1]
        refine .inl ⟨by kernel_rfl, ?_⟩
        go_simp
        exact ⟨_, rfl, Fr.refl _ _, rfl, trivial⟩
      · clear hR k1 k0 kM
        refine .inl ⟨by kernel_rfl, ?_⟩
        go_simp
        exact ⟨_, rfl, Fr.refl _ _, rfl, trivial⟩
      · have h2 : u 2 = _ := hR 2 (by kernel_rfl)
        have h3 : u 3 = _ := hR 3 (by kernel_rfl)
        clear hR k1 k0 kM
        simp only [h2, h3]
        refine .inl ⟨by kernel_rfl, ?_⟩
        go_simp
        refine (CI.out _ hf).mono ?_
        rintro e w4 ⟨v, rfl, hG⟩
        exact ⟨_, rfl, hG.fr0.weak, ⟨_, rfl, Grew.ahead hf hG⟩, trivial⟩
      · clear hR k1 k0 kM
        refine .inl ⟨by kernel_rfl, ?_⟩
        go_simp
        exact ⟨_, rfl, Fr.refl _ _, rfl, trivial⟩
      · clear hR k1 k0 kM
        refine .inl ⟨by kernel_rfl, ?_⟩
        go_simp
        exact ⟨_, rfl, Fr.refl _ _, rfl, trivial⟩
      · have h5 : u 5 = _ := hR 5 (by kernel_rfl)
        have h6 : u 6 = _ := hR 6 (by kernel_rfl)
        clear hR k1 k0 kM
        simp only [h5, h6]
        refine .inl ⟨by kernel_rfl, ?_⟩
        go_simp
        exact ⟨_, rfl, Fr.refl _ _, rfl, trivial⟩
      · have h7 : u 7 = _ := hR 7 (by kernel_rfl)
        clear hR k1 k0 kM
        simp only [h7]
        refine .inl ⟨by kernel_rfl, ?_⟩
        go_simp
        refine (CR.out _ hf).mono ?_
        rintro e w4 ⟨rfl, f4⟩
        exact ⟨_, rfl, f4.weak, rfl, trivial⟩
    · intro u w' hf hR kM
      obtain ⟨v1, hv1, hG1⟩ : PathF w PL (u 4) w' := hR 4 (by omega)
      have h8 : u 8 = _ := hR 8 (by omega)
      clear hR kM
      have G2 := Lib.hid hG1
      obtain ⟨A1, n1, c1, rfl, H1, _⟩ := own_slice hG1.own
      clear hG1 hf
      simp only [List.take_succ_cons, List.take_zero, List.map_cons, List.map_nil, puts, Act.put, List.setIfInBounds_toArray, List.set_cons_zero, List.set_cons_succ, List.drop_succ_cons, List.drop_zero, Nat.reduceAdd, Nat.zero_add, hv1, h8]
      go_wp2_with (refine wpList_buildSlice rfl 22 23 1 #[(0, .tmp 23)] rfl RV.toArray i0 zero32 Tryd.underlying22 hi0 hz0 g1.out g2.out (by simp only [List.map_toArray, List.map_cons, List.map_nil]; exact g3.out) (Held.go ?hold))
      unfold Held
      refine wpList_app1 _ rfl _ _ 22 rfl 23 i0 zero32 32 32 Tryd.underlying22 hi0 hz0 hz1 hz2 rfl (by omega) _ _ _ rfl G2.out.own 1 RV.toArray _ rfl rfl HL.out HO.out (by omega) (by omega) ?_
      intro v3 w3 hG3
      have K3 : Hid (Grew 23 32 w (.slice none 0 0) w3 v3 (PL ++ [RT]).length ((PL ++ [RT]).flatMap digC)) := by
        have h := G2.out.trans hG3
        simp only [Hid]
        rw [HT2.out.1, HT2.out.2]
        exact h
      clear hG3
      go_wp2
      go_ret
      exact ⟨_, rfl, K3.out⟩
  · rw [eP, if_neg hik]
    obtain ⟨i2, hi2⟩ : ∃ i2 : Nat, i2 = i - k := ⟨_, rfl⟩
    rw [← hi2]
    have s3 : (i : Int) - (k : Int) = (i2 : Int) := by omega
    have i24 : i2 ≤ 1048576 := by omega
    have wi2 : IntKind.i64.wrap (i2 : Int) = (i2 : Int) := IntWalk.i64_in _ (by omega)
    have iI : decide ((i : Int) < (k : Int)) = false := decide_eq_false (by omega)
    have iN : ¬ i < k := hik
    have CI : Hid (∀ w', Fr Nothing w w' → Calls Tryd.prog 37 #[.slice (some (ad.add (k * 32))) n2 c2, .int .i64 i2] w' (Owned32 w' (pathL (ds.drop k) i2).length (pathL (ds.drop k) i2))) := fun w' hf => ih n2 (by omega) (ds.drop k) _ c2 S w' i2 (CUT.out w' hf) (by omega) (by omega) (by omega) (by omega)
    have CR : Hid (∀ w', Fr Nothing w w' → Calls Tryd.prog 21 #[.slice (some ad) k c] w' (Same' w' (digV (rootL (ds.take k))))) := fun w' hf => rRoot_any k (ds.take k) _ c S w' (TAK.out w' hf) k1 (by omega) (by omega) hcap
    have lr := lL
    have lp := l20 (ds.drop k) i2 (by omega)
    generalize pathL (ds.drop k) i2 = PL at *
    generalize rootL (ds.take k) = RT at *
    have HF : Hid (Instr.fill (fun i => some (i * 32, 32)) ((Array.range (1 * 32)).map (zero32.cells[· % zero32.cells.size]!)) [(0, .agg (digC RT).toArray)] = some (digC RT).toArray) := fill_one _ _ (by simp [digC, lr]) (by simp)
    have HL : Hid ((digC RT).toArray.size = 1 * 32) := by simp [Hid, digC, lr]
    have HO : Hid (∀ u ∈ (digC RT).toArray.toList, u.oneCell' = true) := by
      intro u hu
      exact oneCell_bvI _ u (by simpa [digC] using hu)
    have HT2 : Hid ((PL ++ [RT]).flatMap digC = PL.flatMap digC ++ digC RT ∧ (PL ++ [RT]).length = PL.length + 1) := ⟨by rw [List.flatMap_append, List.flatMap_singleton], by simp⟩
    unfold digV at CR
    simp only [show ∀ l : List UInt8, l.map bvI = digC l from fun _ => rfl] at CR
    generalize digC RT = RV at *
    have g3 : Hid (Instr.fill (fun i => some (i * i0.size, i0.size)) ((Array.range (1 * i0.size)).map (zero32.cells[· % zero32.cells.size]!)) [(0, .agg RV.toArray)] = some RV.toArray) := by simp only [Hid]; rw [hz1]; exact HF.out
    clear CUT TAK lL lR lr dl1 dl2 hn2 hc2 kb k1 hn hc hcap hin ih hD eP l20 h2 hi2 hik
    go_enter Tryd.func37, Tryd.ntmps37
    go_wp2_with fail
    refine (CS.out _).mono ?_
    rintro e w' ⟨rfl, rfl⟩
    clear CS
    go_upto_region 6 with fail
    refine wp_region_st 11 Nothing [Is (.slice (some ad) n c), Is (.int .i64 k), Is (.slice (some (ad.add (k * 32))) n2 c2), Is (.int .i64 i), Is (.int .i64 k), Is (.int .i64 i2), PathF w PL, Is (.slice (some ad) n c), Is (.int .i64 k), Is (.slice (some ad) k c), Is (.agg RV.toArray)] [] (fun _ => True) (fun _ _ => false) (by kernel_rfl) (by kernel_rfl) (by kernel_rfl) (by kernel_rfl) ⟨Is.stable _, Is.stable _, Is.stable _, Is.stable _, Is.stable _, Is.stable _, PathF.stable, Is.stable _, Is.stable _, Is.stable _, Is.stable _, trivial⟩ trivial (fun _ _ _ _ h => h) trivial ?_ ?_
    · refine ⟨fun u w' d hf hR k1 k0 kM => ?_, fun u w' d hf hR k1 k0 kM => ?_, fun u w' d hf hR k1 k0 kM => ?_, fun u w' d hf hR k1 k0 kM => ?_, fun u w' d hf hR k1 k0 kM => ?_, fun u w' d hf hR k1 k0 kM => ?_, fun u w' d hf hR k1 k0 kM => ?_, fun u w' d hf hR k1 k0 kM => ?_, fun u w' d hf hR k1 k0 kM => ?_, fun u w' d hf hR k1 k0 kM => ?_, fun u w' d hf hR k1 k0 kM => ?_, trivial⟩
      all_goals simp only [List.take_succ_cons, List.take_zero, List.map_cons, List.map_nil, puts, Act.put, List.setIfInBounds_toArray, List.set_cons_zero, List.set_cons_succ, Nat.reduceAdd, Nat.zero_add]
      · clear hR k1 k0 kM
        refine .inl ⟨by kernel_rfl, ?_⟩
        go_simp
        exact ⟨_, rfl, Fr.refl _ _, rfl, trivial⟩
      · clear hR k1 k0 kM
        refine .inl ⟨by kernel_rfl, ?_⟩
        go_simp
        exact ⟨_, rfl, Fr.refl _ _, rfl, trivial⟩
      · have h0 : u 0 = _ := hR 0 (by kernel_rfl)
        have h1 : u 1 = _ := hR 1 (by kernel_rfl)
        clear hR k1 k0 kM
        simp only [h0, h1]
        refine .inl ⟨by kernel_rfl, ?_⟩
        go_simp
        exact ⟨_, rfl, Fr.refl _ _, rfl, trivial⟩
      · clear hR k1 k0 kM
        refine .inl ⟨by kernel_rfl, ?_⟩
        go_simp
        exact ⟨_, rfl, Fr.refl _ _, rfl, trivial⟩
      · clear hR k1 k0 kM
        refine .inl ⟨by kernel_rfl, ?_⟩
        go_simp
        exact ⟨_, rfl, Fr.refl _ _, rfl, trivial⟩
      · have h3 : u 3 = _ := hR 3 (by kernel_rfl)
        have h4 : u 4 = _ := hR 4 (by kernel_rfl)
        clear hR k1 k0 kM
        simp only [h3, h4]
        refine .inl ⟨by kernel_rfl, ?_⟩
        go_simp
        exact ⟨_, rfl, Fr.refl _ _, rfl, trivial⟩
      · have h2 : u 2 = _ := hR 2 (by kernel_rfl)
        have h5 : u 5 = _ := hR 5 (by kernel_rfl)
        clear hR k1 k0 kM
        simp only [h2, h5]
        refine .inl ⟨by kernel_rfl, ?_⟩
        go_simp
        refine (CI.out _ hf).mono ?_
        rintro e w4 ⟨v, rfl, hG⟩
        exact ⟨_, rfl, hG.fr0.weak, ⟨_, rfl, Grew.ahead hf hG⟩, trivial⟩
      · clear hR k1 k0 kM
        refine .inl ⟨by kernel_rfl, ?_⟩
        go_simp
        exact ⟨_, rfl, Fr.refl _ _, rfl, trivial⟩
      · clear hR k1 k0 kM
        refine .inl ⟨by kernel_rfl, ?_⟩
        go_simp
        exact ⟨_, rfl, Fr.refl _ _, rfl, trivial⟩
      · have h7 : u 7 = _ := hR 7 (by kernel_rfl)
        have h8 : u 8 = _ := hR 8 (by kernel_rfl)
        clear hR k1 k0 kM
        simp only [h7, h8]
        refine .inl ⟨by kernel_rfl, ?_⟩
        go_simp
        exact ⟨_, rfl, Fr.refl _ _, rfl, trivial⟩
      · have h9 : u 9 = _ := hR 9 (by kernel_rfl)
        clear hR k1 k0 kM
        simp only [h9]
        refine .inl ⟨by kernel_rfl, ?_⟩
        go_simp
        refine (CR.out _ hf).mono ?_
        rintro e w4 ⟨rfl, f4⟩
        exact ⟨_, rfl, f4.weak, rfl, trivial⟩
    · intro u w' hf hR kM
      obtain ⟨v1, hv1, hG1⟩ : PathF w PL (u 6) w' := hR 6 (by omega)
      have h10 : u 10 = _ := hR 10 (by omega)
      clear hR kM
      have G2 := Lib.hid hG1
      obtain ⟨A1, n1, c1, rfl, H1, _⟩ := own_slice hG1.own
      clear hG1 hf
      simp only [List.take_succ_cons, List.take_zero, List.map_cons, List.map_nil, puts, Act.put, List.setIfInBounds_toArray, List.set_cons_zero, List.set_cons_succ, List.drop_succ_cons, List.drop_zero, Nat.reduceAdd, Nat.zero_add, hv1, h10]
      go_wp2_with (refine wpList_buildSlice rfl 22 23 1 #[(0, .tmp 36)] rfl RV.toArray i0 zero32 Tryd.underlying22 hi0 hz0 g1.out g2.out (by simp only [List.map_toArray, List.map_cons, List.map_nil]; exact g3.out) (Held.go ?hold2))
      unfold Held
      refine wpList_app1 _ rfl _ _ 22 rfl 23 i0 zero32 32 32 Tryd.underlying22 hi0 hz0 hz1 hz2 rfl (by omega) _ _ _ rfl G2.out.own 1 RV.toArray _ rfl rfl HL.out HO.out (by omega) (by omega) ?_
      intro v3 w3 hG3
      have K3 : Hid (Grew 23 32 w (.slice none 0 0) w3 v3 (PL ++ [RT]).length ((PL ++ [RT]).flatMap digC)) := by
        have h := G2.out.trans hG3
        simp only [Hid]
        rw [HT2.out.1, HT2.out.2]
        exact h
      clear hG3
      go_wp2
      go_ret
      exact ⟨_, rfl, K3.out⟩

def RExt (n : Nat) : Prop := ∀ (ds : List (List UInt8)) (A : Option Addr) (c : Nat) (S : Nat → Prop) (w : World) (i : Nat) (whole : Bool), DigL w S A n ds → 1 ≤ i → i ≤ n → n ≤ 1048576 → n ≤ c → c ≤ 9223372036854775807 →
  Calls Tryd.prog 63 #[.slice A n c, .int .i64 i, .bool whole] w (Owned32 w (extL (ds) i whole).length (extL (ds) i whole))

set_option maxRecDepth 100000 in
set_option maxHeartbeats 4000000 in
theorem rext_more (n : Nat) (ih : ∀ j, j < n → RExt j) (ds : List (List UInt8)) (A : Option Addr) (c : Nat) (S : Nat → Prop) (w : World) (i : Nat) (whole : Bool) (hD : DigL w S A n ds) (h1 : 1 ≤ i) (hin : i < n) (hn : n ≤ 1048576) (hc : n ≤ c) (hcap : c ≤ 9223372036854775807) :
    Calls Tryd.prog 63 #[.slice A n c, .int .i64 i, .bool whole] w (Owned32 w (extL (ds) i whole).length (extL (ds) i whole)) := by
  obtain ⟨i0, hi0, hz0, hz1, hz2⟩ := info_parts info_D32'
  obtain ⟨kb, _, k1⟩ := leftN_bounds n (by omega) (by omega)
  have CS := Lib.hid (fun w => Left_any n w (by omega) (by omega))
  obtain ⟨ad, hA, _⟩ := hD.rd.2 (by omega)
  subst hA
  have eL := fun h => extL_left ds i n whole hD.len (by omega) (by omega) (by omega) h
  have eR := fun h => extL_right ds i n whole hD.len (by omega) (by omega) (by omega) h
  generalize leftN n = k at *
  have CUT : Hid (∀ w', Fr Nothing w w' → DigL w' S (some (ad.add (k * 32))) (n - k) (ds.drop k)) := fun w' hf => by
    have h := (hD.cut (k := k) (cap := c) (by omega) hc).fr0 hf
    rw [if_neg (by omega)] at h
    exact h
  have TAK : Hid (∀ w', Fr Nothing w w' → DigL w' S (some ad) k (ds.take k)) := fun w' hf => (hD.take (by omega)).fr0 hf
  have lL := rootL_length k (ds.take k) (by rw [List.length_take, hD.len]; omega) k1 (by omega) (fun d hd => hD.each d (List.mem_of_mem_take hd))
  have lR := rootL_length (n - k) (ds.drop k) (by rw [List.length_drop, hD.len]) (by omega) (by omega) (fun d hd => hD.each d (List.mem_of_mem_drop hd))
  have dl1 : (ds.take k).length = k := by rw [List.length_take, hD.len]; omega
  have dl2 : (ds.drop k).length = n - k := by rw [List.length_drop, hD.len]
  obtain ⟨n2, hn2⟩ : ∃ n2 : Nat, n2 = n - k := ⟨_, rfl⟩
  obtain ⟨c2, hc2⟩ : ∃ c2 : Nat, c2 = c - k := ⟨_, rfl⟩
  rw [← hn2] at CUT dl2
  have s2 : c - k = c2 := hc2.symm
  have s1 : n - k = n2 := hn2.symm
  have i4 : i ≤ 1048576 := by omega
  have k4 : k ≤ 1048576 := by omega
  have b1 : (k : Int) ≤ (c : Int) := by omega
  have b2 : (k : Int) ≤ (n : Int) := by omega
  have b3 : ¬ c = k := by omega
  have b4 : (n : Int) ≤ (c : Int) := by omega
  have g1 : Hid (¬ 1 * i0.size > 2 ^ 24) := by simp only [Hid]; rw [hz1]; omega
  have g2 : Hid (¬ 1 * i0.size = 0) := by simp only [Hid]; rw [hz1]; omega
  have t1 : ((i : Int) == (n : Int)) = false := by rw [beq_eq_false_iff_ne]; omega
  have t2 : ¬ i = n := by omega
  have l21 : ∀ (l : List (List UInt8)) (q j : Nat) (x : Bool), l.length = q → q ≤ 1048576 → 1 ≤ j → j ≤ q → (extL l j x).length ≤ 21 := fun l q j x h hq h1 hj => by
    rw [extL_length q l j x h h1 hj hq]
    exact extLen_depth 20 q j x h1 hj hq hq
  by_cases hik : i ≤ k
  · rw [eL hik]
    have iI : (i : Int) ≤ (k : Int) := by omega
    have CI : Hid (∀ w', Fr Nothing w w' → Calls Tryd.prog 63 #[.slice (some ad) k c, .int .i64 i, .bool whole] w' (Owned32 w' (extL (ds.take k) i whole).length (extL (ds.take k) i whole))) := fun w' hf => ih k kb (ds.take k) _ c S w' i whole (TAK.out w' hf) h1 hik (by omega) (by omega) hcap
    have CR : Hid (∀ w', Fr Nothing w w' → Calls Tryd.prog 21 #[.slice (some (ad.add (k * 32))) n2 c2] w' (Same' w' (digV (rootL (ds.drop k))))) := fun w' hf => rRoot_any n2 (ds.drop k) _ c2 S w' (CUT.out w' hf) (by omega) (by omega) (by omega) (by omega)
    have lr := lR
    have lp := l21 (ds.take k) k i whole dl1 (by omega) h1 hik
    generalize extL (ds.take k) i whole = PL at *
    generalize rootL (ds.drop k) = RT at *
    have HF : Hid (Instr.fill (fun i => some (i * 32, 32)) ((Array.range (1 * 32)).map (zero32.cells[· % zero32.cells.size]!)) [(0, .agg (digC RT).toArray)] = some (digC RT).toArray) := fill_one _ _ (by simp [digC, lr]) (by simp)
    have HL : Hid ((digC RT).toArray.size = 1 * 32) := by simp [Hid, digC, lr]
    have HO : Hid (∀ u ∈ (digC RT).toArray.toList, u.oneCell' = true) := by
      intro u hu
      exact oneCell_bvI _ u (by simpa [digC] using hu)
    have HT2 : Hid ((PL ++ [RT]).flatMap digC = PL.flatMap digC ++ digC RT ∧ (PL ++ [RT]).length = PL.length + 1) := ⟨by rw [List.flatMap_append, List.flatMap_singleton], by simp⟩
    unfold digV at CR
    simp only [show ∀ l : List UInt8, l.map bvI = digC l from fun _ => rfl] at CR
    generalize digC RT = RV at *
    have g3 : Hid (Instr.fill (fun i => some (i * i0.size, i0.size)) ((Array.range (1 * i0.size)).map (zero32.cells[· % zero32.cells.size]!)) [(0, .agg RV.toArray)] = some RV.toArray) := by simp only [Hid]; rw [hz1]; exact HF.out
    clear CUT TAK lL lR lr dl1 dl2 hn2 hc2 kb k1 hn hc hcap hin ih hD eL eR l21 h1
    go_enter Tryd.func63, Tryd.ntmps63
    go_wp2_with fail
    refine (CS.out _).mono ?_
    rintro e w' ⟨rfl, rfl⟩
    clear CS
    go_upto_region 7 with fail
    refine wp_region_st 10 Nothing [Is (.slice (some ad) n c), Is (.int .i64 k), Is (.slice (some ad) k c), Is (.int .i64 i), Is (.bool whole), PathF w PL, Is (.slice (some ad) n c), Is (.int .i64 k), Is (.slice (some (ad.add (k * 32))) n2 c2), Is (.agg RV.toArray)] [] (fun _ => True) (fun _ _ => false) (by kernel_rfl) (by kernel_rfl) (by kernel_rfl) (by kernel_rfl) ⟨Is.stable _, Is.stable _, Is.stable _, Is.stable _, Is.stable _, PathF.stable, Is.stable _, Is.stable _, Is.stable _, Is.stable _, trivial⟩ trivial (fun _ _ _ _ h => h) trivial ?_ ?_
    · refine ⟨fun u w' d hf hR k1 k0 kM => ?_, fun u w' d hf hR k1 k0 kM => ?_, fun u w' d hf hR k1 k0 kM => ?_, fun u w' d hf hR k1 k0 kM => ?_, fun u w' d hf hR k1 k0 kM => ?_, fun u w' d hf hR k1 k0 kM => ?_, fun u w' d hf hR k1 k0 kM => ?_, fun u w' d hf hR k1 k0 kM => ?_, fun u w' d hf hR k1 k0 kM => ?_, fun u w' d hf hR k1 k0 kM => ?_, trivial⟩
      all_goals simp only [List.take_succ_cons, List.take_zero, List.map_cons, List.map_nil, puts, Act.put, List.setIfInBounds_toArray, List.set_cons_zero, List.set_cons_succ, Nat.reduceAdd, Nat.zero_add]
      · clear hR k1 k0 kM
        refine .inl ⟨by kernel_rfl, ?_⟩
        go_simp
        exact ⟨_, rfl, Fr.refl _ _, rfl, trivial⟩
      · clear hR k1 k0 kM
        refine .inl ⟨by kernel_rfl, ?_⟩
        go_simp
        exact ⟨_, rfl, Fr.refl _ _, rfl, trivial⟩
      · have h0 : u 0 = _ := hR 0 (by kernel_rfl)
        have h1 : u 1 = _ := hR 1 (by kernel_rfl)
        clear hR k1 k0 kM
        simp only [h0, h1]
        refine .inl ⟨by kernel_rfl, ?_⟩
        go_simp
        exact ⟨_, rfl, Fr.refl _ _, rfl, trivial⟩
      · clear hR k1 k0 kM
        refine .inl ⟨by kernel_rfl, ?_⟩
        go_simp
        exact ⟨_, rfl, Fr.refl _ _, rfl, trivial⟩
      · clear hR k1 k0 kM
        refine .inl ⟨by kernel_rfl, ?_⟩
        go_simp
        exact ⟨_, rfl, Fr.refl _ _, rfl, trivial⟩
      · have h2 : u 2 = _ := hR 2 (by kernel_rfl)
        have h3 : u 3 = _ := hR 3 (by kernel_rfl)
        have h4 : u 4 = _ := hR 4 (by kernel_rfl)
        clear hR k1 k0 kM
        simp only [h2, h3, h4]
        refine .inl ⟨by kernel_rfl, ?_⟩
        go_simp
        refine (CI.out _ hf).mono ?_
        rintro e w4 ⟨v, rfl, hG⟩
        exact ⟨_, rfl, hG.fr0.weak, ⟨_, rfl, Grew.ahead hf hG⟩, trivial⟩
      · clear hR k1 k0 kM
        refine .inl ⟨by kernel_rfl, ?_⟩
        go_simp
        exact ⟨_, rfl, Fr.refl _ _, rfl, trivial⟩
      · clear hR k1 k0 kM
        refine .inl ⟨by kernel_rfl, ?_⟩
        go_simp
        exact ⟨_, rfl, Fr.refl _ _, rfl, trivial⟩
      · have h6 : u 6 = _ := hR 6 (by kernel_rfl)
        have h7 : u 7 = _ := hR 7 (by kernel_rfl)
        clear hR k1 k0 kM
        simp only [h6, h7]
        refine .inl ⟨by kernel_rfl, ?_⟩
        go_simp
        exact ⟨_, rfl, Fr.refl _ _, rfl, trivial⟩
      · have h8 : u 8 = _ := hR 8 (by kernel_rfl)
        clear hR k1 k0 kM
        simp only [h8]
        refine .inl ⟨by kernel_rfl, ?_⟩
        go_simp
        refine (CR.out _ hf).mono ?_
        rintro e w4 ⟨rfl, f4⟩
        exact ⟨_, rfl, f4.weak, rfl, trivial⟩
    · intro u w' hf hR kM
      obtain ⟨v1, hv1, hG1⟩ : PathF w PL (u 5) w' := hR 5 (by omega)
      have h9 : u 9 = _ := hR 9 (by omega)
      clear hR kM
      have G2 := Lib.hid hG1
      obtain ⟨A1, n1, c1, rfl, H1, _⟩ := own_slice hG1.own
      clear hG1 hf
      simp only [List.take_succ_cons, List.take_zero, List.map_cons, List.map_nil, puts, Act.put, List.setIfInBounds_toArray, List.set_cons_zero, List.set_cons_succ, List.drop_succ_cons, List.drop_zero, Nat.reduceAdd, Nat.zero_add, hv1, h9]
      go_wp2_with (refine wpList_buildSlice rfl 22 23 1 #[(0, .tmp 31)] rfl RV.toArray i0 zero32 Tryd.underlying22 hi0 hz0 g1.out g2.out (by simp only [List.map_toArray, List.map_cons, List.map_nil]; exact g3.out) (Held.go ?hold))
      unfold Held
      refine wpList_app1 _ rfl _ _ 22 rfl 23 i0 zero32 32 32 Tryd.underlying22 hi0 hz0 hz1 hz2 rfl (by omega) _ _ _ rfl G2.out.own 1 RV.toArray _ rfl rfl HL.out HO.out (by omega) (by omega) ?_
      intro v3 w3 hG3
      have K3 : Hid (Grew 23 32 w (.slice none 0 0) w3 v3 (PL ++ [RT]).length ((PL ++ [RT]).flatMap digC)) := by
        have h := G2.out.trans hG3
        simp only [Hid]
        rw [HT2.out.1, HT2.out.2]
        exact h
      clear hG3
      go_wp2
      go_ret
      exact ⟨_, rfl, K3.out⟩
  · rw [eR hik]
    obtain ⟨i2, hi2⟩ : ∃ i2 : Nat, i2 = i - k := ⟨_, rfl⟩
    rw [← hi2]
    have s3 : (i : Int) - (k : Int) = (i2 : Int) := by omega
    have i24 : i2 ≤ 1048576 := by omega
    have wi2 : IntKind.i64.wrap (i2 : Int) = (i2 : Int) := IntWalk.i64_in _ (by omega)
    have iI : decide ((i : Int) ≤ (k : Int)) = false := decide_eq_false (by omega)
    have iN : ¬ i ≤ k := hik
    have CI : Hid (∀ w', Fr Nothing w w' → Calls Tryd.prog 63 #[.slice (some (ad.add (k * 32))) n2 c2, .int .i64 i2, .bool false] w' (Owned32 w' (extL (ds.drop k) i2 false).length (extL (ds.drop k) i2 false))) := fun w' hf => ih n2 (by omega) (ds.drop k) _ c2 S w' i2 false (CUT.out w' hf) (by omega) (by omega) (by omega) (by omega) (by omega)
    have CR : Hid (∀ w', Fr Nothing w w' → Calls Tryd.prog 21 #[.slice (some ad) k c] w' (Same' w' (digV (rootL (ds.take k))))) := fun w' hf => rRoot_any k (ds.take k) _ c S w' (TAK.out w' hf) k1 (by omega) (by omega) hcap
    have lr := lL
    have lp := l21 (ds.drop k) n2 i2 false dl2 (by omega) (by omega) (by omega)
    generalize extL (ds.drop k) i2 false = PL at *
    generalize rootL (ds.take k) = RT at *
    have HF : Hid (Instr.fill (fun i => some (i * 32, 32)) ((Array.range (1 * 32)).map (zero32.cells[· % zero32.cells.size]!)) [(0, .agg (digC RT).toArray)] = some (digC RT).toArray) := fill_one _ _ (by simp [digC, lr]) (by simp)
    have HL : Hid ((digC RT).toArray.size = 1 * 32) := by simp [Hid, digC, lr]
    have HO : Hid (∀ u ∈ (digC RT).toArray.toList, u.oneCell' = true) := by
      intro u hu
      exact oneCell_bvI _ u (by simpa [digC] using hu)
    have HT2 : Hid ((PL ++ [RT]).flatMap digC = PL.flatMap digC ++ digC RT ∧ (PL ++ [RT]).length = PL.length + 1) := ⟨by rw [List.flatMap_append, List.flatMap_singleton], by simp⟩
    unfold digV at CR
    simp only [show ∀ l : List UInt8, l.map bvI = digC l from fun _ => rfl] at CR
    generalize digC RT = RV at *
    have g3 : Hid (Instr.fill (fun i => some (i * i0.size, i0.size)) ((Array.range (1 * i0.size)).map (zero32.cells[· % zero32.cells.size]!)) [(0, .agg RV.toArray)] = some RV.toArray) := by simp only [Hid]; rw [hz1]; exact HF.out
    clear CUT TAK lL lR lr dl1 dl2 hn2 hc2 kb k1 hn hc hcap hin ih hD eL eR l21 h1 hi2 hik
    go_enter Tryd.func63, Tryd.ntmps63
    go_wp2_with fail
    refine (CS.out _).mono ?_
    rintro e w' ⟨rfl, rfl⟩
    clear CS
    go_upto_region 8 with fail
    refine wp_region_st 11 Nothing [Is (.slice (some ad) n c), Is (.int .i64 k), Is (.slice (some (ad.add (k * 32))) n2 c2), Is (.int .i64 i), Is (.int .i64 k), Is (.int .i64 i2), PathF w PL, Is (.slice (some ad) n c), Is (.int .i64 k), Is (.slice (some ad) k c), Is (.agg RV.toArray)] [] (fun _ => True) (fun _ _ => false) (by kernel_rfl) (by kernel_rfl) (by kernel_rfl) (by kernel_rfl) ⟨Is.stable _, Is.stable _, Is.stable _, Is.stable _, Is.stable _, Is.stable _, PathF.stable, Is.stable _, Is.stable _, Is.stable _, Is.stable _, trivial⟩ trivial (fun _ _ _ _ h => h) trivial ?_ ?_
    · refine ⟨fun u w' d hf hR k1 k0 kM => ?_, fun u w' d hf hR k1 k0 kM => ?_, fun u w' d hf hR k1 k0 kM => ?_, fun u w' d hf hR k1 k0 kM => ?_, fun u w' d hf hR k1 k0 kM => ?_, fun u w' d hf hR k1 k0 kM => ?_, fun u w' d hf hR k1 k0 kM => ?_, fun u w' d hf hR k1 k0 kM => ?_, fun u w' d hf hR k1 k0 kM => ?_, fun u w' d hf hR k1 k0 kM => ?_, fun u w' d hf hR k1 k0 kM => ?_, trivial⟩
      all_goals simp only [List.take_succ_cons, List.take_zero, List.map_cons, List.map_nil, puts, Act.put, List.setIfInBounds_toArray, List.set_cons_zero, List.set_cons_succ, Nat.reduceAdd, Nat.zero_add]
      · clear hR k1 k0 kM
        refine .inl ⟨by kernel_rfl, ?_⟩
        go_simp
        exact ⟨_, rfl, Fr.refl _ _, rfl, trivial⟩
      · clear hR k1 k0 kM
        refine .inl ⟨by kernel_rfl, ?_⟩
        go_simp
        exact ⟨_, rfl, Fr.refl _ _, rfl, trivial⟩
      · have h0 : u 0 = _ := hR 0 (by kernel_rfl)
        have h1 : u 1 = _ := hR 1 (by kernel_rfl)
        clear hR k1 k0 kM
        simp only [h0, h1]
        refine .inl ⟨by kernel_rfl, ?_⟩
        go_simp
        exact ⟨_, rfl, Fr.refl _ _, rfl, trivial⟩
      · clear hR k1 k0 kM
        refine .inl ⟨by kernel_rfl, ?_⟩
        go_simp
        exact ⟨_, rfl, Fr.refl _ _, rfl, trivial⟩
      · clear hR k1 k0 kM
        refine .inl ⟨by kernel_rfl, ?_⟩
        go_simp
        exact ⟨_, rfl, Fr.refl _ _, rfl, trivial⟩
      · have h3 : u 3 = _ := hR 3 (by kernel_rfl)
        have h4 : u 4 = _ := hR 4 (by kernel_rfl)
        clear hR k1 k0 kM
        simp only [h3, h4]
        refine .inl ⟨by kernel_rfl, ?_⟩
        go_simp
        exact ⟨_, rfl, Fr.refl _ _, rfl, trivial⟩
      · have h2 : u 2 = _ := hR 2 (by kernel_rfl)
        have h5 : u 5 = _ := hR 5 (by kernel_rfl)
        clear hR k1 k0 kM
        simp only [h2, h5]
        refine .inl ⟨by kernel_rfl, ?_⟩
        go_simp
        refine (CI.out _ hf).mono ?_
        rintro e w4 ⟨v, rfl, hG⟩
        exact ⟨_, rfl, hG.fr0.weak, ⟨_, rfl, Grew.ahead hf hG⟩, trivial⟩
      · clear hR k1 k0 kM
        refine .inl ⟨by kernel_rfl, ?_⟩
        go_simp
        exact ⟨_, rfl, Fr.refl _ _, rfl, trivial⟩
      · clear hR k1 k0 kM
        refine .inl ⟨by kernel_rfl, ?_⟩
        go_simp
        exact ⟨_, rfl, Fr.refl _ _, rfl, trivial⟩
      · have h7 : u 7 = _ := hR 7 (by kernel_rfl)
        have h8 : u 8 = _ := hR 8 (by kernel_rfl)
        clear hR k1 k0 kM
        simp only [h7, h8]
        refine .inl ⟨by kernel_rfl, ?_⟩
        go_simp
        exact ⟨_, rfl, Fr.refl _ _, rfl, trivial⟩
      · have h9 : u 9 = _ := hR 9 (by kernel_rfl)
        clear hR k1 k0 kM
        simp only [h9]
        refine .inl ⟨by kernel_rfl, ?_⟩
        go_simp
        refine (CR.out _ hf).mono ?_
        rintro e w4 ⟨rfl, f4⟩
        exact ⟨_, rfl, f4.weak, rfl, trivial⟩
    · intro u w' hf hR kM
      obtain ⟨v1, hv1, hG1⟩ : PathF w PL (u 6) w' := hR 6 (by omega)
      have h10 : u 10 = _ := hR 10 (by omega)
      clear hR kM
      have G2 := Lib.hid hG1
      obtain ⟨A1, n1, c1, rfl, H1, _⟩ := own_slice hG1.own
      clear hG1 hf
      simp only [List.take_succ_cons, List.take_zero, List.map_cons, List.map_nil, puts, Act.put, List.setIfInBounds_toArray, List.set_cons_zero, List.set_cons_succ, List.drop_succ_cons, List.drop_zero, Nat.reduceAdd, Nat.zero_add, hv1, h10]
      go_wp2_with (refine wpList_buildSlice rfl 22 23 1 #[(0, .tmp 44)] rfl RV.toArray i0 zero32 Tryd.underlying22 hi0 hz0 g1.out g2.out (by simp only [List.map_toArray, List.map_cons, List.map_nil]; exact g3.out) (Held.go ?hold2))
      unfold Held
      refine wpList_app1 _ rfl _ _ 22 rfl 23 i0 zero32 32 32 Tryd.underlying22 hi0 hz0 hz1 hz2 rfl (by omega) _ _ _ rfl G2.out.own 1 RV.toArray _ rfl rfl HL.out HO.out (by omega) (by omega) ?_
      intro v3 w3 hG3
      have K3 : Hid (Grew 23 32 w (.slice none 0 0) w3 v3 (PL ++ [RT]).length ((PL ++ [RT]).flatMap digC)) := by
        have h := G2.out.trans hG3
        simp only [Hid]
        rw [HT2.out.1, HT2.out.2]
        exact h
      clear hG3
      go_wp2
      go_ret
      exact ⟨_, rfl, K3.out⟩

set_option maxRecDepth 100000 in
set_option maxHeartbeats 1000000 in
theorem rpath_one (ds : List (List UInt8)) (A : Option Addr) (c i : Nat) (w : World) (hl : ds.length = 1) :
    Calls Tryd.prog 37 #[.slice A 1 c, .int .i64 i] w (Owned32 w (pathL ds i).length (pathL ds i)) := by
  rw [pathL_one ds i (by omega)]
  clear hl
  go_enter Tryd.func37, Tryd.ntmps37
  go_wp2
  go_ret
  exact ⟨_, rfl, Grew.start ⟨rfl, .inl ⟨rfl, rfl⟩⟩⟩
theorem rpath_any (n : Nat) : RPath n := by
  induction n using Nat.strongRecOn with
  | _ n ih =>
    intro ds A c S w i hD hi hn hc hcap
    by_cases h2 : 2 ≤ n
    · exact rpath_more n ih ds A c S w i hD h2 hi hn hc hcap
    · obtain rfl : n = 1 := by omega
      exact rpath_one ds A c i w hD.len

set_option maxRecDepth 100000 in
set_option maxHeartbeats 1000000 in
theorem rext_whole (ds : List (List UInt8)) (A : Option Addr) (c n : Nat) (w : World) (hl : ds.length = n) :
    Calls Tryd.prog 63 #[.slice A n c, .int .i64 n, .bool true] w (Owned32 w (extL ds n true).length (extL ds n true)) := by
  rw [extL_eq ds n true hl, if_pos rfl]
  clear hl
  go_enter Tryd.func63, Tryd.ntmps63
  go_wp2
  go_ret
  exact ⟨_, rfl, Grew.start ⟨rfl, .inl ⟨rfl, rfl⟩⟩⟩

set_option maxRecDepth 100000 in
set_option maxHeartbeats 2000000 in
theorem rext_part (ds : List (List UInt8)) (A : Option Addr) (c n : Nat) (S : Nat → Prop) (w : World) (hD : DigL w S A n ds) (h1 : 1 ≤ n) (hn : n ≤ 1048576) (hc : n ≤ c) (hcap : c ≤ 9223372036854775807) :
    Calls Tryd.prog 63 #[.slice A n c, .int .i64 n, .bool false] w (Owned32 w (extL ds n false).length (extL ds n false)) := by
  rw [extL_eq ds n false hD.len, if_neg (by decide)]
  obtain ⟨i0, hi0, hz0, hz1, hz2⟩ := info_parts info_D32'
  have g1 : Hid (¬ 1 * i0.size > 2 ^ 24) := by simp only [Hid]; rw [hz1]; omega
  have g2 : Hid (¬ 1 * i0.size = 0) := by simp only [Hid]; rw [hz1]; omega
  have CR : Hid (∀ w', Fr Nothing w w' → Calls Tryd.prog 21 #[.slice A n c] w' (Same' w' (digV (rootL ds)))) := fun w' hf => rRoot_any n ds A c S w' (hD.fr0 hf) h1 (by omega) hc hcap
  have lr : (rootL ds).length = 32 := rootL_length n ds hD.len h1 (by omega) hD.each
  generalize rootL ds = RT at *
  have HF : Hid (Instr.fill (fun i => some (i * 32, 32)) ((Array.range (1 * 32)).map (zero32.cells[· % zero32.cells.size]!)) [(0, .agg (digC RT).toArray)] = some (digC RT).toArray) := fill_one _ _ (by simp [digC, lr]) (by simp)
  have HC : Hid ((digC RT).toArray.toList = [RT].flatMap digC ∧ ([RT].flatMap digC).length = 1 * 32) := ⟨by simp, by simp [digC, lr]⟩
  have HC1 : Hid ([RT].length = 1) := rfl
  unfold digV at CR
  simp only [show ∀ l : List UInt8, l.map bvI = digC l from fun _ => rfl] at CR
  generalize [RT].length = R1 at *
  generalize digC RT = RV at *
  have g3 : Hid (Instr.fill (fun i => some (i * i0.size, i0.size)) ((Array.range (1 * i0.size)).map (zero32.cells[· % zero32.cells.size]!)) [(0, .agg RV.toArray)] = some RV.toArray) := by simp only [Hid]; rw [hz1]; exact HF.out
  clear hD h1 hc hcap lr
  go_enter Tryd.func63, Tryd.ntmps63
  go_wp2_with fail
  refine (CR.out _ (Fr.refl _ _)).mono ?_
  rintro e w1 ⟨rfl, f1⟩
  have F1 := Lib.hid f1
  clear f1
  go_wp2_with (refine wpList_buildSlice rfl 22 23 1 #[(0, .tmp 14)] rfl RV.toArray i0 zero32 Tryd.underlying22 hi0 hz0 g1.out g2.out (by simp only [List.map_toArray, List.map_cons, List.map_nil]; exact g3.out) (Held.go ?hold))
  unfold Held
  have K3 : Hid (Grew 23 32 w (.slice none 0 0) (w1.alloc (.cells RV.toArray 23)) (.slice (some ⟨w1.heap.size, 0, none⟩) 1 1) R1 ([RT].flatMap digC)) := by
    have := Grew.lit1 F1.out (NewBlk.alloc w1 23 RV.toArray) HC.out.1 HC.out.2
    simp only [Hid]
    rw [show R1 = 1 from HC1.out]
    exact this
  generalize w1.alloc (.cells RV.toArray 23) = w2 at *
  generalize w1.heap.size = gz at *
  go_wp2
  go_ret
  exact ⟨_, rfl, K3.out⟩
theorem rext_any (n : Nat) : RExt n := by
  induction n using Nat.strongRecOn with
  | _ n ih =>
    intro ds A c S w i whole hD h1 hi hn hc hcap
    rcases Nat.lt_or_ge i n with h | h
    · exact rext_more n ih ds A c S w i whole hD h1 h hn hc hcap
    · obtain rfl : i = n := by omega
      cases whole
      · exact rext_part ds A c i S w hD h1 hn hc hcap
      · exact rext_whole ds A c i w hD.len

set_option maxRecDepth 100000 in
set_option maxHeartbeats 1000000 in
theorem Extension_any (n : Nat) (ds : List (List UInt8)) (A : Option Addr) (c i : Nat) (S : Nat → Prop) (w : World) (hD : DigL w S A n ds) (hi : i ≤ n) (hn : n ≤ 1048576) (hc : n ≤ c) (hcap : c ≤ 9223372036854775807) :
    Calls Tryd.prog 36 #[.slice A n c, .int .i64 i] w (Owned32 w (extT ds i n).1.length (extT ds i n).1) := by
  have hl := hD.len
  rcases Nat.eq_zero_or_pos i with rfl | h1
  · have e := extT_zero ds n (by omega)
    simp only [Int.natCast_zero] at *
    rw [e]
    clear e hD hl
    go_enter Tryd.func36, Tryd.ntmps36
    go_wp2
    go_ret
    exact ⟨_, rfl, Grew.start ⟨rfl, .inl ⟨rfl, rfl⟩⟩⟩
  · rw [extT_pos ds i n (by omega) h1 hi, List.take_of_length_le (by omega)]
    have CI : Hid (∀ w', Fr Nothing w w' → Calls Tryd.prog 63 #[.slice A n c, .int .i64 i, .bool true] w' (Owned32 w' (extL ds i true).length (extL ds i true))) := fun w' hf => rext_any n ds A c S w' i true (hD.fr0 hf) h1 hi hn hc hcap
    simp only
    generalize extL ds i true = PL at *
    have tz : ((i : Int) == 0) = false := by rw [beq_eq_false_iff_ne]; omega
    have tz2 : ¬ i = 0 := by omega
    clear hD hl h1
    go_enter Tryd.func36, Tryd.ntmps36
    go_wp2_with fail
    refine (CI.out _ (Fr.refl _ _)).mono ?_
    rintro e w1 ⟨v, rfl, hG⟩
    have HG := Lib.hid hG
    clear hG
    go_wp2
    go_ret
    exact ⟨v, rfl, HG.out⟩
end Go.Proofs.YtkaghbpdnmigmaaDoor

/- LogtreeTrees, plainly; its third argument: written by genTrO.py. -/
namespace Go.Proofs.YtkaghbpdnmigmaaDoor
open Go.RowKit Go.ChangeShapes Go.WideShapes Go.Deep

theorem incV_out (ds : List (List UInt8)) (a b : Int) (h : ¬ (1 ≤ b ∧ b ≤ ds.length ∧ 0 ≤ a ∧ a < b)) : incV ds a b = ([], 2) := by
  unfold incV
  rw [if_neg h]
theorem incV_in (ds : List (List UInt8)) (a b : Nat) (h : a < b) (hb : b ≤ ds.length) : incV ds a b = (pathL (ds.take b) a, 0) := by
  unfold incV
  rw [if_pos (by omega), Int.toNat_natCast, Int.toNat_natCast]
theorem incV_each (ds : List (List UInt8)) (a b : Int) (hn : ds.length ≤ 1048576) (he : ∀ d ∈ ds, d.length = 32) : (∀ d ∈ (incV ds a b).1, d.length = 32) ∧ (incV ds a b).1.length ≤ 20 := by
  unfold incV
  split
  · exact ⟨pathL_each b.toNat _ a.toNat (by rw [List.length_take]; omega) (by omega) (fun d hd => he d (List.mem_of_mem_take hd)), pathL_depth 20 _ _ (by rw [List.length_take]; omega) (by rw [List.length_take]; omega)⟩
  · exact ⟨fun d hd => (by cases hd), by simp⟩
theorem extT_len (ds : List (List UInt8)) (m n : Int) (hn : ds.length ≤ 1048576) : (extT ds m n).1.length ≤ 21 := by
  unfold extT
  split
  · split
    · split
      · simp
      · rw [extL_length n.toNat (ds.take n.toNat) m.toNat true (by rw [List.length_take]; omega) (by omega) (by omega) (by omega)]
        exact extLen_depth 20 n.toNat m.toNat true (by omega) (by omega) (by omega) (by omega)
    · simp
  · simp
theorem extT_take (ds : List (List UInt8)) (a b : Nat) (h : a ≤ b) (hb : b ≤ ds.length) : (extT ds a b).2 = 0 ∧ (extT (ds.take b) a b).1 = (extT ds a b).1 := by
  rcases Nat.eq_zero_or_pos a with rfl | h1
  · have e1 := extT_zero ds b hb
    have e2 := extT_zero (ds.take b) b (by rw [List.length_take]; omega)
    simp only [Int.natCast_zero] at *
    rw [e1, e2]
    exact ⟨rfl, rfl⟩
  · rw [extT_pos ds a b hb h1 h, extT_pos (ds.take b) a b (by rw [List.length_take]; omega) h1 h, List.take_take, Nat.min_self]
    exact ⟨rfl, rfl⟩
theorem OwnS.of32' {w w' : World} {v : Value} {n : Nat} {ds : List (List UInt8)} (h : Grew 23 32 w (.slice none 0 0) w' v n (ds.flatMap digC)) (hl : ds.length = n) (he : ∀ d ∈ ds, d.length = 32) : OwnS n ds v w' := by
  obtain ⟨A, c, rfl, hD, h1, h2, _⟩ := DigL.of_grew32 h hl he
  exact ⟨A, c, rfl, h1, h2, _, hD⟩
theorem wp_buildZ' {P : Program} {op : Oper} {a : Act} {w : World} {K : Act → World → Prop} {Q : Exit → Act → World → Prop} (t : TypeId) (ho : op.op = .build t #[]) (cells : Array Value)
    (hf : P.built t [] = some cells) (h : K (a.put op.dst (.agg cells)) w) : op.wp P a w K Q :=
  wp_build t #[] ho (by simp [hf]) (by simpa [hf] using h)

/-! ### The third argument -/
theorem cells61 : Tryd.prog.cellsOf 61 = 2 := by kernel_rfl
set_option maxRecDepth 100000 in
theorem open_pair {H : Type} {enc : TypeId × Value → H} {w : World} {r : Reach} {b fuel : Nat} {v : Value} {x : DataW H × List MemPlace} (hval : Value.okWide Tryd.prog w r b 61 v)
    (h : DataW.trod enc Tryd.prog w 0 (fun _ => true) true fuel 61 v.cells.toList = some x) :
    ∃ p : Int × Int, v = .agg #[.int .i64 p.1, .int .i64 p.2] ∧ (-9223372036854775808 ≤ p.1 ∧ p.1 ≤ 9223372036854775807) ∧ (-9223372036854775808 ≤ p.2 ∧ p.2 ≤ 9223372036854775807) := by
  unfold Value.okWide at hval
  rw [Tryd.underlying61] at hval
  obtain ⟨⟨l⟩, rfl, hs, _⟩ := hval
  rw [cells61] at hs
  obtain ⟨xs, m, _, _, _, hl, hi⟩ := DataW.trod_array Tryd.underlying61 h
  match l, hs with
  | [c0, c1], _ =>
    match xs, hl with
    | [y0, y1], _ =>
      have h0 := hi 0 (by decide)
      have h1 := hi 1 (by decide)
      rw [cells3] at h0 h1
      obtain ⟨a0, e0, _, b0⟩ := DataW.trod_int Tryd.underlying3 h0
      obtain ⟨a1, e1, _, b1⟩ := DataW.trod_int Tryd.underlying3 h1
      obtain rfl : c0 = Value.int .i64 a0 := (List.cons.inj e0).1
      obtain rfl : c1 = Value.int .i64 a1 := (List.cons.inj e1).1
      have := bounds_i64 b0
      have := bounds_i64 b1
      exact ⟨(a0, a1), rfl, ⟨by omega, by omega⟩, ⟨by omega, by omega⟩⟩
end Go.Proofs.YtkaghbpdnmigmaaDoor
