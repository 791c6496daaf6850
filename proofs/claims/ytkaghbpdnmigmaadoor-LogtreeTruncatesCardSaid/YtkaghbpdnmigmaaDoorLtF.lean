/- logtree.rootOf. -/
import Derived.Test.YtkaghbpdnmigmaaDoorLtE
namespace Go.Proofs.YtkaghbpdnmigmaaDoor
open Go.RowKit

def RootOf (n : Nat) : Prop := ∀ (ds : List (List UInt8)) (A : Option Addr) (c : Nat) (S : Nat → Prop) (w : World), DigL w S A n ds → 1 ≤ n → n ≤ 1099511627776 → n ≤ c → c ≤ 9223372036854775807 → ShaTab w →
  Calls Tryd.prog 45 #[.slice A n c] w (Same' w (digV (rootL ds)))

set_option maxRecDepth 100000 in
set_option maxHeartbeats 1000000 in
theorem rootOf_one (ds : List (List UInt8)) (A : Option Addr) (c : Nat) (S : Nat → Prop) (w : World) (hD : DigL w S A 1 ds) (_hc : 1 ≤ c) :
    Calls Tryd.prog 45 #[.slice A 1 c] w (Same' w (digV (rootL ds))) := by
  obtain ⟨ad, d, rfl, _, hd, hd32, hcell⟩ := hD.at_ (k := 0) (by omega)
  have he : rootL ds = d := by
    match ds, hD.len, hd with
    | [x], _, hd => cases hd; exact rootL_one _
    | [], hl, _ => simp at hl
    | _ :: _ :: _, hl, _ => simp at hl
  rw [he]
  have HD := Lib.hid (Dig.of hd32)
  have hi : (Tryd.prog.info? 24).map (·.size) = some (digC d).length := by rw [digC, List.length_map, hd32]; exact infoD
  rw [Nat.zero_mul, show ad.add 0 = ad from rfl] at hcell
  have HC := Lib.hid hcell
  have HI := Lib.hid hi
  unfold digV
  change Calls _ _ _ _ (Same' w (.agg (digC d).toArray))
  have HD' : Hid (Dig (digC d).toArray) := HD.out
  generalize digC d = RV at *
  clear HD hd hd32 he hD hcell hi
  go_enter Tryd.func45, Tryd.ntmps45
  go_wp2_with (refine wpList_allocBlk rfl 24 rfl zero32 zvD zero32c rfl ?_)
  intro w1 n1
  have N1 := Lib.hid n1
  clear n1
  go_wp2_with (first | (refine wpList_load_add rfl 24 (.tmp 8) rfl ad rfl RV _ (fun j v hv => N1.out.fr.cellSome (HC.out j v hv) (fun x => x)) Tryd.underlying24 rfl HI.out ?_) | (refine wpList_storeBlk rfl 24 (.tmp 2) _ rfl w.heap.size RV.toArray rfl rfl _ _ N1.out.blk HD'.out.info HD'.out.zero HD'.out.one ?_))
  intro wz b5 f5
  have J4 := Lib.hid b5
  have JF : Hid (Fr Nothing w wz) := N1.out.fr.then_ f5 (fun i hi e => by have e' : i = w.heap.size := e; omega)
  clear b5 f5
  go_wp2
  exact bodyPost_ret (results_cell_row (fn := Tryd.f45) (p := 2) (ty := 24) Tryd.results45 _ wz _ 24 RV.toArray (0, 0) _ rfl J4.out Tryd.underlying24 rfl HD'.out.info) rfl ⟨rfl, JF.out⟩

set_option maxRecDepth 100000 in
set_option maxHeartbeats 1000000 in
theorem rootOf_more (n : Nat) (ih : ∀ m, m < n → RootOf m) (h2 : 2 ≤ n) : RootOf n := by
  intro ds A c S w hD h1 hn hc hcap hT
  obtain ⟨kb, _, k1⟩ := leftN_bounds n h2 hn
  have hre := rootL_more ds n hD.len h2 hn
  have CS := Lib.hid (fun w => leftSize_any n w h2 hn)
  obtain ⟨ad, hA, _⟩ := hD.rd.2 (by omega)
  subst hA
  generalize leftN n = k at *
  have CL : Hid (∀ w', Fr Nothing w w' → Calls Tryd.prog 45 #[.slice (some ad) k c] w' (Same' w' (digV (rootL (ds.take k))))) :=
    fun w' hf => ih k kb _ _ _ S _ ((hD.take (by omega)).fr0 hf) k1 (by omega) (by omega) hcap (hT.fr0 hf)
  have CR : Hid (∀ w', Fr Nothing w w' → Calls Tryd.prog 45 #[.slice (some (ad.add (k * 32))) (n - k) (c - k)] w' (Same' w' (digV (rootL (ds.drop k))))) := by
    intro w' hf
    have h := (hD.cut (k := k) (cap := c) (by omega) hc).fr0 hf
    rw [if_neg (by omega)] at h
    exact ih (n - k) (by omega) _ _ _ S _ h (by omega) (by omega) (by omega) (by omega) (hT.fr0 hf)
  have lL := rootL_length k (ds.take k) (by rw [List.length_take, hD.len]; omega) k1 (by omega) (fun d hd => hD.each d (List.mem_of_mem_take hd))
  have lR := rootL_length (n - k) (ds.drop k) (by rw [List.length_drop, hD.len]) (by omega) (by omega) (fun d hd => hD.each d (List.mem_of_mem_drop hd))
  have CN : Hid (∀ w', Fr Nothing w w' → Calls Tryd.prog 17 #[digV (rootL (ds.take k)), digV (rootL (ds.drop k))] w' (Same' w' (digV (rootL ds)))) := by
    intro w' hf
    rw [hre]
    exact Node_any _ _ lL lR w' (hT.fr0 hf)
  have HD := Lib.hid (Dig.of (rootL_length n ds hD.len (by omega) hn hD.each))
  unfold digV at *
  generalize ((rootL (ds.take k)).map bvI).toArray = LA at *
  generalize ((rootL (ds.drop k)).map bvI).toArray = RR at *
  generalize ((rootL ds).map bvI).toArray = RA at *
  clear hre lL lR hT hD ih
  have t1 : ((n : Int) == 1) = false := by rw [beq_eq_false_iff_ne]; omega
  have b1 : (k : Int) ≤ (c : Int) := by omega
  have b2 : (k : Int) ≤ (n : Int) := by omega
  have b3 : ¬ c = k := by omega
  have b4 : (n : Int) ≤ (c : Int) := by omega
  go_enter Tryd.func45, Tryd.ntmps45
  go_wp2_with (refine wpList_allocBlk rfl 24 rfl zero32 zvD zero32c rfl ?_)
  intro w1 n1
  have N1 := Lib.hid n1
  clear n1
  go_wp2_with fail
  refine (CS.out _).mono ?_
  rintro e w' ⟨rfl, rfl⟩
  clear CS
  go_upto_region 4 with fail
  refine wp_region_facts 9 Nothing [Is (.slice (some ad) n c), Is (.int .i64 k), Is (.slice (some ad) k c), Is (.agg LA), Is (.slice (some ad) n c), Is (.int .i64 k), Is (.slice (some (ad.add (k * 32))) (n - k) (c - k)), Is (.agg RR), Is (.agg RA)] (by kernel_rfl) (by kernel_rfl) ⟨Is.stable _, Is.stable _, Is.stable _, Is.stable _, Is.stable _, Is.stable _, Is.stable _, Is.stable _, Is.stable _, trivial⟩ ?_ ?_
  · refine ⟨fun u w' hf hR => ?_, fun u w' hf hR => ?_, fun u w' hf hR => ?_, fun u w' hf hR => ?_, fun u w' hf hR => ?_, fun u w' hf hR => ?_, fun u w' hf hR => ?_, fun u w' hf hR => ?_, fun u w' hf hR => ?_, trivial⟩
    all_goals simp only [List.take_succ_cons, List.take_zero, List.map_cons, List.map_nil, puts, Act.put, List.setIfInBounds_toArray, List.set_cons_zero, List.set_cons_succ, Nat.reduceAdd, Nat.zero_add]
    · clear hR; go_simp; exact ⟨_, rfl, Fr.refl _ _, rfl⟩
    · clear hR; go_simp; exact ⟨_, rfl, Fr.refl _ _, rfl⟩
    · have h0 : u 0 = _ := hR 0 (by kernel_rfl)
      have h1 : u 1 = _ := hR 1 (by kernel_rfl)
      clear hR
      simp only [h0, h1]
      go_simp
      exact ⟨_, rfl, Fr.refl _ _, rfl⟩
    · have h2 : u 2 = _ := hR 2 (by kernel_rfl)
      clear hR
      simp only [h2]
      go_simp
      refine (CL.out _ (N1.out.fr.trans hf)).mono ?_
      rintro e w4 ⟨rfl, f4⟩
      exact ⟨_, rfl, f4, rfl⟩
    · clear hR; go_simp; exact ⟨_, rfl, Fr.refl _ _, rfl⟩
    · clear hR; go_simp; exact ⟨_, rfl, Fr.refl _ _, rfl⟩
    · have h4 : u 4 = _ := hR 4 (by kernel_rfl)
      have h5 : u 5 = _ := hR 5 (by kernel_rfl)
      clear hR
      simp only [h4, h5]
      go_simp
      exact ⟨_, rfl, Fr.refl _ _, rfl⟩
    · have h6 : u 6 = _ := hR 6 (by kernel_rfl)
      clear hR
      simp only [h6]
      go_simp
      refine (CR.out _ (N1.out.fr.trans hf)).mono ?_
      rintro e w4 ⟨rfl, f4⟩
      exact ⟨_, rfl, f4, rfl⟩
    · have h3 : u 3 = _ := hR 3 (by kernel_rfl)
      have h7 : u 7 = _ := hR 7 (by kernel_rfl)
      clear hR
      simp only [h3, h7]
      go_simp
      refine (CN.out _ (N1.out.fr.trans hf)).mono ?_
      rintro e w4 ⟨rfl, f4⟩
      exact ⟨_, rfl, f4, rfl⟩
  · intro u w' hf hR
    have h8 : u 8 = .agg RA := hR 8 (by omega)
    clear hR
    simp only [List.take_succ_cons, List.take_zero, List.map_cons, List.map_nil, puts, Act.put, List.setIfInBounds_toArray, List.set_cons_zero, List.set_cons_succ, List.drop_succ_cons, List.drop_zero, Nat.reduceAdd, Nat.zero_add, h8]
    have F2 := Lib.hid (N1.out.fr.trans hf)
    have B2 := Lib.hid (N1.out.blk.fr hf (fun x => x))
    clear hf N1
    go_wp2_with (refine wpList_storeBlk rfl 24 (.tmp 2) _ rfl w.heap.size RA rfl rfl _ _ B2.out HD.out.info HD.out.zero HD.out.one ?_)
    intro wz b5 f5
    have J4 := Lib.hid b5
    have JF : Hid (Fr Nothing w wz) := F2.out.then_ f5 (fun i hi e => by have e' : i = w.heap.size := e; omega)
    clear b5 f5
    go_wp2
    exact bodyPost_ret (results_cell_row (fn := Tryd.f45) (p := 2) (ty := 24) Tryd.results45 _ wz _ 24 RA (0, 0) _ rfl J4.out Tryd.underlying24 rfl HD.out.info) rfl ⟨rfl, JF.out⟩

theorem rootOf_any (n : Nat) : RootOf n := by
  induction n using Nat.strongRecOn with
  | _ n ih =>
    by_cases h2 : 2 ≤ n
    · exact rootOf_more n ih h2
    · intro ds A c S w hD h1 hn hc _ _
      obtain rfl : n = 1 := by omega
      exact rootOf_one ds A c S w hD hc
end Go.Proofs.YtkaghbpdnmigmaaDoor
