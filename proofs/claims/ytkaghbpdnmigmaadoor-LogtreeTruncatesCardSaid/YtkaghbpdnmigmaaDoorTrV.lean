/- Truncate's predicate; maps.DeleteFunc and maps.Clone at the tree's map: written by genTrV.py. -/
import Derived.Test.YtkaghbpdnmigmaaDoorTrU
import Derived.Shelf.SlMaps.Clone
import Derived.Shelf.Abstract
namespace Go.Proofs.YtkaghbpdnmigmaaDoor
open Go.RowKit

set_option maxRecDepth 100000 in
set_option maxHeartbeats 2000000 in
theorem del_any (l i n q g3 : Nat) (x : Array Value) (dv : Bool) (w : World) (hq : q = (i + 1) * 2 ^ l) (hl : l ≤ 40) (hqm : q ≤ 1048576) (_hn : n ≤ 1048576) (hB : Blk w g3 3 #[.int .i64 (n : Int)]) (hd : dv = decide (n < q)) :
    Calls Tryd.prog 68 #[keyV l i, .agg x, .pointer (some ⟨g3, 0, none⟩)] w (Same' w (.bool dv)) := by
  have i4 : i + 1 ≤ 1048576 := by
    have : (i + 1) * 1 ≤ (i + 1) * 2 ^ l := Nat.mul_le_mul_left _ Nat.one_le_two_pow
    omega
  obtain ⟨i1, hi1⟩ : ∃ i1 : Nat, (i : Int) + 1 = (i1 : Int) := ⟨i + 1, rfl⟩
  have hi1' : i1 = i + 1 := by omega
  have hw1 : IntKind.i64.wrap (i1 : Int) = (i1 : Int) := IntWalk.i64_in _ (by omega)
  have hsh : IntKind.i64.wrap ((i1 : Int) * 2 ^ l) = ((q : Nat) : Int) := by
    have : (i1 : Int) * 2 ^ l = ((q : Nat) : Int) := by rw [hq, ← hi1']; simp
    rw [this]
    exact IntWalk.i64_in _ (by omega)
  have d1 : decide ((n : Int) < (q : Int)) = dv := by rw [hd]; exact decide_eq_decide.2 (by omega)
  have d2 : decide (n < q) = dv := hd.symm
  have GB := Lib.hid hB
  clear hB hq hi1' hd
  change Calls _ _ #[.agg #[.int .i64 (l : Int), .int .i64 (i : Int)], _, _] _ _
  go_enter Tryd.func68, Tryd.ntmps68
  go_wp2_with (refine wpList_boxBlk rfl 110 (.tmp 0) rfl _ rfl ?_)
  intro w1 n1
  have N1 := Lib.hid n1
  clear n1
  go_wp2_with (refine wpList_boxBlk rfl 24 (.tmp 1) rfl _ rfl ?_)
  intro w2 n2
  have F2 := Lib.hid (N1.out.fr.trans n2.fr)
  have KB := Lib.hid (N1.out.blk.fr n2.fr (fun x => x))
  clear n2 N1
  generalize w.heap.size = gk at *
  generalize w1.heap.size = gd at *
  have K0 : Hid (w2.cell? ⟨gk, 0, none⟩ = some (.int .i64 (l : Int))) := KB.out.cell 0
  have K1 : Hid (w2.cell? ⟨gk, 1, none⟩ = some (.int .i64 (i : Int))) := KB.out.cell 1
  have G0 : Hid (w2.cell? ⟨g3, 0, none⟩ = some (.int .i64 (n : Int))) := (GB.out.fr F2.out (fun x => x)).cell 0
  clear KB GB
  go_upto_region 1 with fail
  refine wp_region_st 8 Nothing [Is (.pointer (some ⟨gk, 1, none⟩)), Is (.int .i64 i), Is (.int .i64 i1), Is (.pointer (some ⟨gk, 0, none⟩)), Is (.int .i64 l), Is (.int .i64 q), Is (.int .i64 n), Is (.bool dv)] [] (fun _ => True) (fun _ _ => false) (by kernel_rfl) (by kernel_rfl) (by kernel_rfl) (by kernel_rfl) ⟨Is.stable _, Is.stable _, Is.stable _, Is.stable _, Is.stable _, Is.stable _, Is.stable _, Is.stable _, trivial⟩ trivial (fun _ _ _ _ h => h) trivial ?_ ?_
  · refine ⟨fun u w' d hf hR k1 k0 kM => ?_, fun u w' d hf hR k1 k0 kM => ?_, fun u w' d hf hR k1 k0 kM => ?_, fun u w' d hf hR k1 k0 kM => ?_, fun u w' d hf hR k1 k0 kM => ?_, fun u w' d hf hR k1 k0 kM => ?_, fun u w' d hf hR k1 k0 kM => ?_, fun u w' d hf hR k1 k0 kM => ?_, trivial⟩
    all_goals simp only [List.take_succ_cons, List.take_zero, List.map_cons, List.map_nil, puts, Act.put, List.setIfInBounds_toArray, List.set_cons_zero, List.set_cons_succ, Nat.reduceAdd, Nat.zero_add]
    · clear hR k1 k0 kM
      refine .inl ⟨by kernel_rfl, ?_⟩
      go_simp
      exact ⟨_, rfl, Fr.refl _ _, rfl, trivial⟩
    · have h0 : u 0 = _ := hR 0 (by kernel_rfl)
      clear hR k1 k0 kM
      simp only [h0]
      refine .inl ⟨by kernel_rfl, ?_⟩
      have hc : w'.cell? ⟨gk, 1, none⟩ = some (.int .i64 i) := hf.cellSome K1.out (fun x => x)
      go_simp
      exact ⟨_, rfl, Fr.refl _ _, rfl, trivial⟩
    · have h1 : u 1 = _ := hR 1 (by kernel_rfl)
      clear hR k1 k0 kM
      simp only [h1]
      refine .inl ⟨by kernel_rfl, ?_⟩
      go_simp
      exact ⟨_, rfl, Fr.refl _ _, rfl, trivial⟩
    · clear hR k1 k0 kM
      refine .inl ⟨by kernel_rfl, ?_⟩
      go_simp
      exact ⟨_, rfl, Fr.refl _ _, rfl, trivial⟩
    · have h3 : u 3 = _ := hR 3 (by kernel_rfl)
      clear hR k1 k0 kM
      simp only [h3]
      refine .inl ⟨by kernel_rfl, ?_⟩
      have hc : w'.cell? ⟨gk, 0, none⟩ = some (.int .i64 l) := hf.cellSome K0.out (fun x => x)
      go_simp
      exact ⟨_, rfl, Fr.refl _ _, rfl, trivial⟩
    · have h2 : u 2 = _ := hR 2 (by kernel_rfl)
      have h4 : u 4 = _ := hR 4 (by kernel_rfl)
      clear hR k1 k0 kM
      simp only [h2, h4]
      refine .inl ⟨by kernel_rfl, ?_⟩
      go_simp
      exact ⟨_, rfl, Fr.refl _ _, rfl, trivial⟩
    · clear hR k1 k0 kM
      refine .inl ⟨by kernel_rfl, ?_⟩
      have hc : w'.cell? ⟨g3, 0, none⟩ = some (.int .i64 n) := hf.cellSome G0.out (fun x => x)
      go_simp
      exact ⟨_, rfl, Fr.refl _ _, rfl, trivial⟩
    · have h5 : u 5 = _ := hR 5 (by kernel_rfl)
      have h6 : u 6 = _ := hR 6 (by kernel_rfl)
      clear hR k1 k0 kM
      simp only [h5, h6]
      refine .inl ⟨by kernel_rfl, ?_⟩
      go_simp
      exact ⟨_, rfl, Fr.refl _ _, rfl, trivial⟩
  · intro u w' hf hR kM
    have h7 : u 7 = _ := hR 7 (by omega)
    clear hR kM
    simp only [List.take_succ_cons, List.take_zero, List.map_cons, List.map_nil, puts, Act.put, List.setIfInBounds_toArray, List.set_cons_zero, List.set_cons_succ, List.drop_succ_cons, List.drop_zero, Nat.reduceAdd, Nat.zero_add, h7]
    have FE := Lib.hid (F2.out.trans hf)
    clear hf
    go_wp2
    go_ret
    exact ⟨rfl, FE.out⟩

def zeroPart : Value := .agg #[.int .i64 0, .int .i64 0]
theorem zvPart (w : World) : (zeroValue 110).run Tryd.prog w = .ok zeroPart w := by kernel_rfl
theorem infoPart' : (Tryd.prog.info? 110).map (·.size) = some 2 := by kernel_rfl
theorem enterDel (args : Array Value) (w : World) : (callFunc 68 args).run Tryd.prog w = .ok (.enter 68 args) w := by kernel_rfl

set_option maxRecDepth 100000 in
set_option maxHeartbeats 4000000 in
theorem delFunc_any (b n m g3 : Nat) (ds : List (List UInt8)) (w : World) (hM : PartM w b ds (partC m)) (hB : Blk w g3 3 #[.int .i64 (n : Int)]) (hm : m ≤ 1048576) (hn : n ≤ 1048576) (hl : ds.length = m) (he : ∀ d ∈ ds, d.length = 32) :
    Calls Tryd.prog 67 #[.map (some b), .func (.func 68) #[] #[.pointer (some ⟨g3, 0, none⟩)]] w (fun e w' => e = .returned (.tuple #[]) ∧ PartM w' b ds (fun l i => partC m l i ∧ (i + 1) * 2 ^ l ≤ n) ∧ Fr (fun k => k = b) w w') := by
  have HM := Lib.hid hM
  have GB := Lib.hid hB
  have HGb : Hid (b ≠ g3) := hM.ne_blk hB
  have LT : Hid (b < w.heap.size ∧ g3 < w.heap.size) := ⟨hM.lt, hB.lt⟩
  have HE := Lib.hid he
  have HL := Lib.hid hl
  clear hM hB he hl
  go_enter Tryd.func67, Tryd.ntmps67
  go_wp2_with (at_range; refine wpList_range_part rfl _ rfl b n ds (partC m) rfl HM.out ?_)
  intro w0 hs0 hf0 hz0
  have S0 := Lib.hid hs0
  have F0 := Lib.hid hf0
  clear hs0 hf0 hz0
  generalize hr : w.heap.size = r at *
  have HRr := Lib.hid hr
  clear hr
  go_wp2
  go_loopw [8] (fun _ wr => SweepX wr b r n ds (partC m) None2 ∧ Fr (fun k => k = b) w wr) (fun _ wr => wr.rangeLeft b r)
  case atStart => exact ⟨S0.out, F0.out.weak⟩
  case round =>
    obtain ⟨hs, hf⟩ := hrel
    have S1 := Lib.hid hs
    have F1 := Lib.hid hf
    clear hs hf
    go_wp2_with (at_next; refine wpList_next_part rfl _ rfl b r n ds (partC m) rfl S1.out ?_ ?_)
    · intro hP
      have HP := Lib.hid hP
      clear hP
      go_wp2
      go_end0
      exact ⟨rfl, HP.out, F1.out⟩
    · intro l i w2 hC hs2 hlt hf2 hz2 hen
      have S2 := Lib.hid hs2
      have LTM := Lib.hid hlt
      have F2 := Lib.hid (F1.out.then_ hf2 (fun k hk e => by have e' : k = r := e; have := HRr.out; omega))
      have HC := Lib.hid hC
      have l40 : l ≤ 40 := by
        have h1 : (i + 1) * 2 ^ l ≤ m := hC.2
        have h2 : 1 * 2 ^ l ≤ (i + 1) * 2 ^ l := Nat.mul_le_mul_right _ (by omega)
        rcases Nat.lt_or_ge 40 l with h | h
        · have : 2 ^ 41 ≤ 2 ^ l := Nat.pow_le_pow_right (by omega) h
          omega
        · exact h
      have lp : (partR ds l i).length = 32 := partR_length ds HE.out l i (by rw [HL.out]; exact hC.2)
      have DP : Hid (Dig (digC (partR ds l i)).toArray) := Dig.of lp
      have IPV : Hid ((Tryd.prog.info? 24).map (·.size) = some (digC (partR ds l i)).length) := by rw [digC, List.length_map, lp]; exact infoD
      obtain ⟨q, hq⟩ : ∃ q, q = (i + 1) * 2 ^ l := ⟨_, rfl⟩
      have hqm : q ≤ m := by rw [hq]; exact hC.2
      have CD : Hid (∀ w', Blk w' g3 3 #[.int .i64 (n : Int)] → ∀ x, Calls Tryd.prog 68 #[keyV l i, .agg x, .pointer (some ⟨g3, 0, none⟩)] w' (Same' w' (.bool (decide (n < q))))) := fun w' hB x => del_any l i n q g3 x _ w' hq l40 (by omega) hn hB rfl
      have hDV : digV (partR ds l i) = .agg (digC (partR ds l i)).toArray := rfl
      rw [hDV] at hen ⊢
      generalize digC (partR ds l i) = DV at *
      unfold keyV at hen ⊢
      clear hs2 hlt hf2 hz2 hC lp hDV
      go_wp2_with (refine wpList_allocBlk rfl 110 rfl zeroPart zvPart #[.int .i64 0, .int .i64 0] rfl ?_)
      intro w3 n3
      have NA := Lib.hid n3
      clear n3 hen
      generalize hga : w2.heap.size = ga at *
      have HGA := Lib.hid hga
      clear hga
      go_wp2_with (refine wpList_allocBlk rfl 24 rfl zero32 zvD zero32c rfl ?_)
      intro w4 n4
      have NB := Lib.hid n4
      clear n4
      generalize hgb : w3.heap.size = gb at *
      have HGB := Lib.hid hgb
      clear hgb
      have O5 : Hid ((#[Value.int .i64 (l : Int), .int .i64 (i : Int)] : Array Value).all (·.oneCell') = true) := by simp [Hid, Value.oneCell']
      have A4 : Hid (Blk w4 ga 110 #[.int .i64 0, .int .i64 0]) := by have h := NA.out.blk; rw [HGA.out] at h; exact h.fr NB.out.fr (fun x => x)
      go_wp2_with (refine wpList_storeBlk rfl 110 (.tmp 4) _ rfl ga #[.int .i64 (l : Int), .int .i64 (i : Int)] rfl rfl _ _ A4.out infoPart' rfl O5.out ?_)
      intro w5 b5 f5
      have B5 := Lib.hid b5
      have F5 := Lib.hid f5
      clear b5 f5
      go_wp2_with (refine wpList_storeBlk rfl 24 (.tmp 5) _ rfl gb DV.toArray rfl rfl _ _ (by have h := NB.out.blk; rw [HGB.out] at h; exact h.fr F5.out (fun e => by have e' : gb = ga := e; have q1 := HGA.out; have q2 := HGB.out; have q3 := NA.out.size; omega)) DP.out.info DP.out.zero DP.out.one ?_)
      intro w6 b6 f6
      have B6 := Lib.hid b6
      have F26 : Hid (Fr Nothing w2 w6) := ((NA.out.fr.trans NB.out.fr).then_ F5.out (fun i hi e => by have e' : i = ga := e; have q1 := HGA.out; omega)).then_ f6 (fun i hi e => by have e' : i = gb := e; have q1 := HGA.out; have q2 := HGB.out; have q3 := NA.out.size; omega)
      have A6 := Lib.hid (B5.out.fr f6 (fun e => by have e' : ga = gb := e; have q1 := HGA.out; have q2 := HGB.out; have q3 := NA.out.size; omega))
      have S6 := Lib.hid (S2.out.fr F26.out (fun x => x) (fun x => x))
      have L6 := Lib.hid (S2.out.left_fr F26.out (fun x => x) (fun x => x))
      have F6 := Lib.hid (F2.out.trans F26.out.weak)
      clear b6 f6 B5 F5 NA NB HGA HGB S2 F2
      go_wp2_with (refine wpList_loadBlk rfl 110 (.tmp 4) rfl ga rfl _ [.int .i64 (l : Int), .int .i64 (i : Int)] A6.out _ Tryd.underlying110 rfl infoPart' (Held.go ?hold))
      unfold Held
      refine wpList_loadBlk rfl 24 (.tmp 5) rfl gb rfl _ DV B6.out _ Tryd.underlying24 rfl IPV.out ?_
      have G6 := Lib.hid (GB.out.fr F6.out (fun e => HGb.out e.symm))
      go_wp2_with fail
      by_cases hdel : n < q
      · have CD2 := CD.out w6 G6.out DV.toArray
        rw [decide_eq_true hdel] at CD2
        refine CD2.mono ?_
        rintro e w7 ⟨rfl, f7⟩
        have S7 := Lib.hid (S6.out.fr f7 (fun x => x) (fun x => x))
        have L7 := Lib.hid ((S6.out.left_fr f7 (fun x => x) (fun x => x)).trans L6.out)
        have A7 := Lib.hid (A6.out.fr f7 (fun x => x))
        have F7 := Lib.hid (F6.out.trans f7.weak)
        have HDEL : Hid (n < (i + 1) * 2 ^ l) := by rw [← hq]; exact hdel
        clear f7 S6 L6 A6 F6 CD2 hdel hq
        go_wp2_with (refine wpList_loadBlk rfl 110 (.tmp 4) rfl ga rfl _ [.int .i64 (l : Int), .int .i64 (i : Int)] A7.out _ Tryd.underlying110 rfl infoPart' (Held.go ?hold2))
        unfold Held
        refine wpList_delete_part rfl _ _ rfl b r n l i ds (partC m) rfl rfl S7.out HDEL.out ?_
        intro w8 hs8 hl8 hf8
        have S8 := Lib.hid hs8
        have L8 := Lib.hid hl8
        have F8 := Lib.hid (F7.out.trans hf8)
        clear hs8 hl8 hf8 S7 F7
        simp only [Act.put]
        go_wp2
        go_roundw
        case rel => exact ⟨S8.out, F8.out⟩
        case measure => have q1 := L8.out; have q2 := L7.out; have q3 := LTM.out; omega
      · have CD2 := CD.out w6 G6.out DV.toArray
        rw [decide_eq_false hdel] at CD2
        refine CD2.mono ?_
        rintro e w7 ⟨rfl, f7⟩
        have S7 := Lib.hid ((S6.out.fr f7 (fun x => x) (fun x => x)).judged (by rw [← hq]; omega))
        have L7 := Lib.hid ((S6.out.left_fr f7 (fun x => x) (fun x => x)).trans L6.out)
        have F7 := Lib.hid (F6.out.trans f7.weak)
        clear f7 S6 L6 A6 F6 CD2 hdel hq
        go_wp2
        go_roundw
        case rel => exact ⟨S7.out, F7.out⟩
        case measure => have q2 := L7.out; have q3 := LTM.out; omega

set_option maxRecDepth 100000 in
set_option maxHeartbeats 1000000 in
theorem delFunc_nil (fv : Value) (w : World) : Calls Tryd.prog 67 #[.map none, fv] w (fun e w' => e = .returned (.tuple #[]) ∧ Fr Nothing w w') := by
  have hrg := run_range_nilMap (P := Tryd.prog) w 100 _ _ und_map
  have hnx : ∀ ty, (Instr.next (.pointer (some ⟨w.heap.size, 0, none⟩)) false ty).run Tryd.prog (w.alloc (.mapIter none 0 #[] 0)) = _ := fun ty => run_next_nilMap _ ty 0 0 #[]
  go_enter Tryd.func67, Tryd.ntmps67
  go_wp2
  refine wp_loop_rounds 1 ?_
  rw [rounds_succ]
  go_wp2
  go_end0
  exact ⟨rfl, (Fr.refl _ _).alloc _⟩

/-! ### maps.Clone -/
set_option maxRecDepth 100000 in
set_option maxHeartbeats 2000000 in
theorem mapsClone_some (b : Nat) (ds : List (List UInt8)) (C : Nat → Nat → Prop) (w : World) (hM : PartM w b ds C) :
    Calls Tryd.prog 65 #[.map (some b)] w (fun e w' => e = .returned (.map (some w.heap.size)) ∧ PartM w' w.heap.size ds C ∧ Fr Nothing w w') := by
  obtain ⟨es, clock, h1, h2, h3, h4⟩ := hM
  have hq := fun w => run_eql_map_nil_sl (P := Tryd.prog) w 100 _ _ (some b) und_map
  go_enter Tryd.func65, Tryd.ntmps65
  go_wp2
  rw [run_callFunc_extern Tryd.func81 (by kernel_rfl) (by kernel_rfl) (by kernel_rfl) (e := Extern.MapsClone.clone) (by kernel_rfl), run_maps_clone_sl w 100 h1]
  simp only [Result.andThen]
  rw [Oper.upon_value]
  go_wp2
  rw [run_typeAssert_map_sl _ 100 _ _ _ _ und_map]
  simp only [Result.andThen]
  rw [Oper.upon_value]
  go_wp2
  go_ret
  exact ⟨rfl, ⟨es, clock, heap_alloc_new w _, h2, h3, h4⟩, (Fr.refl _ _).alloc _⟩

set_option maxRecDepth 100000 in
set_option maxHeartbeats 1000000 in
theorem mapsClone_nil (w : World) : Calls Tryd.prog 65 #[.map none] w (fun e w' => e = .returned (.map none) ∧ w' = w) := by
  have hq := fun w => run_eql_map_nil_sl (P := Tryd.prog) w 100 _ _ none und_map
  go_enter Tryd.func65, Tryd.ntmps65
  go_wp2
  go_ret
  exact ⟨rfl, rfl⟩
end Go.Proofs.YtkaghbpdnmigmaaDoor
