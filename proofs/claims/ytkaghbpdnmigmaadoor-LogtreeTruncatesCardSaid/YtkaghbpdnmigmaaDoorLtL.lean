/- The law's known: it returns true and turns no old block (written by genK.py). -/
import Derived.Test.YtkaghbpdnmigmaaDoorLtK
import Derived.Test.YtkaghbpdnmigmaaDoorGwA
namespace Go.Proofs.YtkaghbpdnmigmaaDoor
open Go.RowKit

theorem wpList_loadBlk {P : Program} {ops : Array Oper} {rest : List Oper} {op : Oper} {a : Act} {w : World} {Q : Exit → Act → World → Prop} (hgd : op.guard = none) (ty : TypeId) (x : Operand) (ho : op.op = .load ty x)
    (g : Nat) (hx : a.eval x = .pointer (some ⟨g, 0, none⟩)) (t : TypeId) (cs : List Value) (hb : Blk w g t cs.toArray) (d : TypeDesc)
    (hu : P.underlying ty = some d) (hd : d.isRow = true) (hi : (P.info? ty).map (·.size) = some cs.length)
    (h : wpList P ops Q rest (a.put op.dst (.agg cs.toArray)) w) : wpList P ops Q (op :: rest) a w :=
  wpList_load_add hgd ty x ho ⟨g, 0, none⟩ hx cs d (fun j v hv => by rw [Addr.add_mid, Nat.zero_add, hb.cell, List.getElem?_toArray]; exact hv) hu hd hi h

theorem fill_two (c1 c2 b : Array Value) (h1 : c1.size = 32) (h2 : c2.size = 32) (hb : b.size = 64) : Instr.fill (fun i => some (i * 32, 32)) b [(0, .agg c1), (1, .agg c2)] = some (c1.toList ++ c2.toList).toArray := by
  have hf := fold_arr c1 b 0 (by omega)
  simp only [Nat.zero_add, List.take_zero, List.nil_append, h1] at hf
  have hl : (c1.toList ++ b.toList.drop 32).toArray.size = 64 := by simp [h1, hb]
  have hf2 := fold_arr c2 (c1.toList ++ b.toList.drop 32).toArray 32 (by omega)
  have e1 : (c1.toList ++ b.toList.drop 32).take 32 = c1.toList := by rw [List.take_append_of_le_length (by simp [h1]), List.take_of_length_le (by simp [h1])]
  have e2 : (c1.toList ++ b.toList.drop 32).drop (32 + 32) = [] := List.drop_of_length_le (by simp [h1, hb])
  simp only [h2, e1, e2, List.append_nil] at hf2
  simp only [Instr.fill, Value.cells, h1, h2, hb, Nat.zero_mul, Nat.zero_add, Nat.one_mul, ne_eq, not_true_eq_false, decide_false, Bool.false_or, gt_iff_lt, Nat.lt_irrefl, Bool.false_eq_true, if_false, Nat.reduceAdd, Nat.reduceLT, hf, hl, hf2]

theorem leaf_ne : leafD (txL ⟨#[97]⟩) ≠ leafD (txL ⟨#[98]⟩) := fun h => leaf_ab (by
  unfold leafD at h
  exact congrArg List.head? h)

theorem root_two (a b : List UInt8) : rootE [a, b] = nodeD a b := by
  rw [rootE, if_neg (by simp), rootL_more [a, b] 2 rfl (by omega) (by omega)]
  have : leftN 2 = 1 := by kernel_rfl
  rw [this]
  simp [rootL_one]

set_option maxRecDepth 100000 in
set_option maxHeartbeats 2000000 in
theorem known_any (w : World) (hT : ShaTab w) : Calls Tryd.prog 15 #[] w (Same' w (.bool true)) := by
  obtain ⟨i0, hi0, hz0, hz1, hz2⟩ := info_parts infoDp
  have hla : (leafD (txL ⟨#[97]⟩)).length = 32 := leafD_length _
  have hlb : (leafD (txL ⟨#[98]⟩)).length = 32 := leafD_length _
  have CA : Hid (∀ w', Fr Nothing w w' → Calls Tryd.prog 12 #[.string ⟨#[97]⟩] w' (Same' w' (digV (leafD (txL ⟨#[97]⟩))))) := fun w' hf => Leaf_any _ w' (hT.fr0 hf) (by decide)
  have CB : Hid (∀ w', Fr Nothing w w' → Calls Tryd.prog 12 #[.string ⟨#[98]⟩] w' (Same' w' (digV (leafD (txL ⟨#[98]⟩))))) := fun w' hf => Leaf_any _ w' (hT.fr0 hf) (by decide)
  have rA : Hid (∀ w', Calls Tryd.prog 16 #[.string ⟨#[97]⟩] w' (Same' w' (digV (leafD (txL ⟨#[97]⟩))))) := fun w' => rLeaf_any _ w' (by decide)
  have rB : Hid (∀ w', Calls Tryd.prog 16 #[.string ⟨#[98]⟩] w' (Same' w' (digV (leafD (txL ⟨#[98]⟩))))) := fun w' => rLeaf_any _ w' (by decide)
  have hab := leaf_ne
  generalize leafD (txL ⟨#[97]⟩) = la at *
  generalize leafD (txL ⟨#[98]⟩) = lb at *
  have CN : Hid (∀ w', Fr Nothing w w' → Calls Tryd.prog 17 #[digV la, digV lb] w' (Same' w' (digV (nodeD la lb)))) := fun w' hf => Node_any la lb hla hlb w' (hT.fr0 hf)
  have rN : Hid (∀ w', Calls Tryd.prog 18 #[digV la, digV lb] w' (Same' w' (digV (nodeD la lb)))) := fun w' => rNode_any la lb hla hlb w'
  have CR : Hid (∀ w' g, Fr Nothing w w' → Blk w' g 24 (digC la ++ digC lb).toArray → Calls Tryd.prog 13 #[.slice (some ⟨g, 0, none⟩) 2 2] w' (Same' w' (.tuple #[digV (nodeD la lb), .int .i64 0]))) := by
    intro w' g hf hb
    have h := Root_any 2 [la, lb] (some ⟨g, 0, none⟩) 2 (fun k => k = g) w' ⟨by
      have := rd_blk32 hb (n := 2) (by simp [digC, hla, hlb])
      simpa using this, rfl, by
      intro d hd
      simp only [List.mem_cons, List.not_mem_nil, or_false] at hd
      rcases hd with rfl | rfl
      · exact hla
      · exact hlb⟩ (by omega) (by omega) (by omega) (hT.fr0 hf)
    rw [root_two] at h
    exact h
  have CP : Hid (∀ w' g, Blk w' g 102 #[.slice none 0 0, .map none] → Calls Tryd.prog 39 #[.pointer (some ⟨g, 0, none⟩), digV la] w' (fun e w'' => e = .returned (.int .i64 0) ∧ Fr (fun k => k = g) w' w'' ∧ ∃ A c, w''.cell? ⟨g, 0, none⟩ = some (.slice A 1 c))) := fun w' g hb => Append_first la hla g w' hb
  have q1 : ∀ w : World, (binOp .neq 24 (digV la) (digV lb)).run Tryd.prog w = .ok (.bool true) w := fun w => by
    rw [run_neD w _ Tryd.underlying24 la lb hla hlb, decide_eq_false hab]; rfl
  have hlr : (nodeD la lb).length = 32 := nodeD_length _ _
  generalize nodeD la lb = lr at *
  have q2 : ∀ w : World, (binOp .eql 24 (digV lr) (digV lr)).run Tryd.prog w = .ok (.bool true) w := fun w => by
    rw [run_eqD w _ Tryd.underlying24 lr lr hlr hlr, decide_eq_true rfl]
  have q3 : ∀ w : World, (binOp .eql 23 (digV lr) (digV lr)).run Tryd.prog w = .ok (.bool true) w := fun w => by
    rw [run_eqD w _ Tryd.underlying23 lr lr hlr hlr, decide_eq_true rfl]
  have DA := Lib.hid (Dig.of hla)
  have DB := Lib.hid (Dig.of hlb)
  have DR := Lib.hid (Dig.of hlr)
  have HF : Hid (Instr.fill (fun i => some (i * i0.size, i0.size)) ((Array.range (2 * i0.size)).map (zero32.cells[· % zero32.cells.size]!)) [(0, .agg (digC la).toArray), (1, .agg (digC lb).toArray)] = some (digC la ++ digC lb).toArray) := by
    simp only [Hid]
    rw [hz1]
    have := fill_two (digC la).toArray (digC lb).toArray ((Array.range (2 * 32)).map (zero32.cells[· % zero32.cells.size]!)) (by simp [digC, hla]) (by simp [digC, hlb]) (by simp)
    simpa using this
  have HAV : Hid ((Tryd.prog.info? 24).map (·.size) = some (digC la).length) := by rw [digC, List.length_map, hla]; exact infoD
  have HBV : Hid ((Tryd.prog.info? 24).map (·.size) = some (digC lb).length) := by rw [digC, List.length_map, hlb]; exact infoD
  have HRV : Hid ((Tryd.prog.info? 24).map (·.size) = some (digC lr).length) := by rw [digC, List.length_map, hlr]; exact infoD
  clear hT hla hlb hlr hab
  have g1 : Hid (¬ 2 * i0.size > 2 ^ 24) := by simp only [Hid]; rw [hz1]; omega
  have g2 : Hid (¬ 2 * i0.size = 0) := by simp only [Hid]; rw [hz1]; omega
  unfold digV at *
  change Hid (Dig (digC la).toArray) at DA
  change Hid (Dig (digC lb).toArray) at DB
  change Hid (Dig (digC lr).toArray) at DR
  simp only [show ∀ l : List UInt8, l.map bvI = digC l from fun _ => rfl] at *
  generalize digC la = AV at *
  generalize digC lb = BV at *
  generalize digC lr = RV at *
  go_enter Tryd.func15, Tryd.ntmps15
  go_wp2_with fail
  refine (CA.out _ (Fr.refl _ _)).mono ?_
  rintro e w1 ⟨rfl, f1⟩
  have F1 := Lib.hid f1
  clear f1
  go_wp2_with fail
  refine (CB.out _ F1.out).mono ?_
  rintro e w2 ⟨rfl, f2⟩
  have F2 := Lib.hid (F1.out.trans f2)
  clear f2 F1
  go_wp2_with (refine wpList_allocBlk rfl 24 rfl zero32 zvD zero32c rfl ?_)
  intro w3 n3
  have N3 := Lib.hid n3
  clear n3
  go_wp2_with (refine wpList_allocBlk rfl 24 rfl zero32 zvD zero32c rfl ?_)
  intro w4 n4
  have B4 := Lib.hid (N3.out.blk.fr n4.fr (fun x => x))
  have F4 := Lib.hid (F2.out.trans (N3.out.fr.trans n4.fr))
  have C4 := Lib.hid n4.blk
  have z1 : Hid (w.heap.size ≤ w2.heap.size ∧ w2.heap.size < w3.heap.size) := ⟨F2.out.size, by rw [N3.out.size]; omega⟩
  clear n4 N3 F2
  generalize w2.heap.size = ga at *
  generalize w3.heap.size = gb at *
  go_wp2_with (refine wpList_storeBlk rfl 24 (.tmp 1) _ rfl ga AV.toArray rfl rfl _ _ B4.out DA.out.info DA.out.zero DA.out.one ?_)
  intro w5 b5 f5
  have B5 := Lib.hid b5
  have C5 := Lib.hid (C4.out.fr f5 (fun e => by have e' : gb = ga := e; have := z1.out; omega))
  have F5 := Lib.hid (F4.out.then_ f5 (fun i hi e => by have e' : i = ga := e; have := z1.out; omega))
  clear b5 f5 B4 C4 F4
  go_wp2_with (refine wpList_storeBlk rfl 24 (.tmp 2) _ rfl gb BV.toArray rfl rfl _ _ C5.out DB.out.info DB.out.zero DB.out.one ?_)
  intro w6 b6 f6
  have C6 := Lib.hid b6
  have B6 := Lib.hid (B5.out.fr f6 (fun e => by have e' : ga = gb := e; have := z1.out; omega))
  have F6 := Lib.hid (F5.out.then_ f6 (fun i hi e => by have e' : i = gb := e; have := z1.out; omega))
  clear b6 f6 B5 C5 F5
  go_wp2_with (refine wpList_loadBlk rfl 24 (.tmp 1) rfl ga rfl _ AV B6.out _ Tryd.underlying24 rfl HAV.out (Held.go ?hold))
  unfold Held
  refine wpList_loadBlk rfl 24 (.tmp 2) rfl gb rfl _ BV C6.out _ Tryd.underlying24 rfl HBV.out ?_
  refine wpList_buildSlice rfl 29 24 2 #[(0, .tmp 9), (1, .tmp 10)] rfl (AV ++ BV).toArray i0 zero32 Tryd.underlying29 hi0 hz0 g1.out g2.out ?b3 ?_
  case b3 =>
    simp only [List.map_toArray, List.map_cons, List.map_nil]
    exact HF.out
  have NW := NewBlk.alloc w6 24 (AV ++ BV).toArray
  generalize w6.alloc (.cells (AV ++ BV).toArray 24) = w7 at *
  have B7 := Lib.hid (B6.out.fr NW.fr (fun x => x))
  have C7 := Lib.hid (C6.out.fr NW.fr (fun x => x))
  have F7 := Lib.hid (F6.out.trans NW.fr)
  have L7 := Lib.hid NW.blk
  clear NW B6 C6 F6
  generalize w6.heap.size = gl at *
  go_wp2_with fail
  refine (CR.out _ _ F7.out L7.out).mono ?_
  rintro e w8 ⟨rfl, f8⟩
  have B8 := Lib.hid (B7.out.fr f8 (fun x => x))
  have C8 := Lib.hid (C7.out.fr f8 (fun x => x))
  have F8 := Lib.hid (F7.out.trans f8)
  clear f8 B7 C7 F7 L7 CR
  go_wp2_with (refine wpList_allocBlk rfl 24 rfl zero32 zvD zero32c rfl ?_)
  intro w9 n9
  have B9 := Lib.hid (B8.out.fr n9.fr (fun x => x))
  have C9 := Lib.hid (C8.out.fr n9.fr (fun x => x))
  have F9 := Lib.hid (F8.out.trans n9.fr)
  have R9 := Lib.hid n9.blk
  have z2 : Hid (w.heap.size ≤ w8.heap.size ∧ ga < w8.heap.size ∧ gb < w8.heap.size) := ⟨F8.out.size, B8.out.lt, C8.out.lt⟩
  clear n9 B8 C8 F8
  generalize w8.heap.size = gr at *
  go_wp2_with (refine wpList_storeBlk rfl 24 (.tmp 3) _ rfl gr RV.toArray rfl rfl _ _ R9.out DR.out.info DR.out.zero DR.out.one ?_)
  intro w10 b10 f10
  have R10 := Lib.hid b10
  have B10 := Lib.hid (B9.out.fr f10 (fun e => by have e' : ga = gr := e; have := z2.out; omega))
  have C10 := Lib.hid (C9.out.fr f10 (fun e => by have e' : gb = gr := e; have := z2.out; omega))
  have F10 := Lib.hid (F9.out.then_ f10 (fun i hi e => by have e' : i = gr := e; have := z2.out; omega))
  clear b10 f10 B9 C9 F9 R9
  go_wp2_with fail
  refine (New_any _).mono ?_
  rintro e w11 ⟨rfl, rfl⟩
  have TN := NewBlk.alloc w10 102 #[.slice none 0 0, .map none]
  generalize w10.alloc (.cells #[.slice none 0 0, .map none] 102) = w11 at *
  have TB := Lib.hid TN.blk
  have z3 : Hid (w.heap.size ≤ w10.heap.size ∧ ga < w10.heap.size ∧ gb < w10.heap.size ∧ gr < w10.heap.size) := ⟨F10.out.size, B10.out.lt, C10.out.lt, R10.out.lt⟩
  have F11 := Lib.hid (F10.out.trans TN.fr)
  have B11 := Lib.hid (B10.out.fr TN.fr (fun x => x))
  have C11 := Lib.hid (C10.out.fr TN.fr (fun x => x))
  have R11 := Lib.hid (R10.out.fr TN.fr (fun x => x))
  clear TN F10 B10 C10 R10
  generalize w10.heap.size = gt at *
  go_upto_region 4 with fail
  have F0 : Hid (∀ w', Fr (fun k => k = gt) w11 w' → Fr Nothing w w') := fun w' hf => F11.out.then_ hf (fun i hi e => by have e' : i = gt := e; have := z3.out; omega)
  have BA : Hid (∀ w', Fr (fun k => k = gt) w11 w' → Blk w' ga 24 AV.toArray) := fun w' hf => B11.out.fr hf (fun e => by have e' : ga = gt := e; have := z3.out; omega)
  have BB : Hid (∀ w', Fr (fun k => k = gt) w11 w' → Blk w' gb 24 BV.toArray) := fun w' hf => C11.out.fr hf (fun e => by have e' : gb = gt := e; have := z3.out; omega)
  have BR : Hid (∀ w', Fr (fun k => k = gt) w11 w' → Blk w' gr 24 RV.toArray) := fun w' hf => R11.out.fr hf (fun e => by have e' : gr = gt := e; have := z3.out; omega)
  have CP' : Hid (∀ w', Blk w' gt 102 #[.slice none 0 0, .map none] → Calls Tryd.prog 39 #[.pointer (some ⟨gt, 0, none⟩), .agg AV.toArray] w' (fun e w'' => e = .returned (.int .i64 0) ∧ Fr (fun k => k = gt) w' w'' ∧ ∃ A c, w''.cell? ⟨gt, 0, none⟩ = some (.slice A 1 c))) := fun w' hb => CP.out w' gt hb
  clear CP CA CB B11 C11 R11 F11 DA DB DR HF hi0 hz0 hz1 hz2 g1 g2 z1 z2 z3
  refine wp_region_st 36 (fun k => k = gt) [Is (.agg AV.toArray), Is (.agg BV.toArray), Is (.bool true), Is (.bool true), Is (.int .i64 0), Is (.bool true), Is (.bool true), Is (.bool true), Is (.agg RV.toArray), Is (.agg AV.toArray), Is (.agg BV.toArray), Is (.agg RV.toArray), Is (.bool true), Is (.bool true), Is (.bool true), Is (.agg RV.toArray), Is (.agg AV.toArray), Is (.agg BV.toArray), Is (.agg RV.toArray), Is (.bool true), Is (.bool true), Is (.bool true), Is (.pointer (some ⟨gt, 0, none⟩)), Is (.bool true), Is (.bool true), Is (.bool true), Is (.pointer (some ⟨gt, 0, none⟩)), Is (.agg AV.toArray), Is (.int .i64 0), Is (.bool true), Is (.bool true), Is (.bool true), Is (.pointer (some ⟨gt, 0, none⟩)), Is (.int .i64 1), Is (.bool true), Is (.bool true)] [(28, fun w' => ∃ A c, w'.cell? ⟨gt, 0, none⟩ = some (.slice A 1 c))] (fun w' => Blk w' gt 102 #[.slice none 0 0, .map none]) (fun i j => i == 28 && decide (28 < j)) (by kernel_rfl) (by kernel_rfl) (by kernel_rfl) (by kernel_rfl) ⟨Is.stable _, Is.stable _, Is.stable _, Is.stable _, Is.stable _, Is.stable _, Is.stable _, Is.stable _, Is.stable _, Is.stable _, Is.stable _, Is.stable _, Is.stable _, Is.stable _, Is.stable _, Is.stable _, Is.stable _, Is.stable _, Is.stable _, Is.stable _, Is.stable _, Is.stable _, Is.stable _, Is.stable _, Is.stable _, Is.stable _, Is.stable _, Is.stable _, Is.stable _, Is.stable _, Is.stable _, Is.stable _, Is.stable _, Is.stable _, Is.stable _, Is.stable _, trivial⟩ ⟨fun _ _ _ hf ⟨A, c, h⟩ => ⟨A, c, hf.cellSome h (fun x => x)⟩, trivial⟩ (fun _ _ _ hf h => h.fr hf (fun x => x)) TB.out ?_ ?_
  · refine ⟨fun u w' d hf hR k1 k0 kM => ?_, fun u w' d hf hR k1 k0 kM => ?_, fun u w' d hf hR k1 k0 kM => ?_, fun u w' d hf hR k1 k0 kM => ?_, fun u w' d hf hR k1 k0 kM => ?_, fun u w' d hf hR k1 k0 kM => ?_, fun u w' d hf hR k1 k0 kM => ?_, fun u w' d hf hR k1 k0 kM => ?_, fun u w' d hf hR k1 k0 kM => ?_, fun u w' d hf hR k1 k0 kM => ?_, fun u w' d hf hR k1 k0 kM => ?_, fun u w' d hf hR k1 k0 kM => ?_, fun u w' d hf hR k1 k0 kM => ?_, fun u w' d hf hR k1 k0 kM => ?_, fun u w' d hf hR k1 k0 kM => ?_, fun u w' d hf hR k1 k0 kM => ?_, fun u w' d hf hR k1 k0 kM => ?_, fun u w' d hf hR k1 k0 kM => ?_, fun u w' d hf hR k1 k0 kM => ?_, fun u w' d hf hR k1 k0 kM => ?_, fun u w' d hf hR k1 k0 kM => ?_, fun u w' d hf hR k1 k0 kM => ?_, fun u w' d hf hR k1 k0 kM => ?_, fun u w' d hf hR k1 k0 kM => ?_, fun u w' d hf hR k1 k0 kM => ?_, fun u w' d hf hR k1 k0 kM => ?_, fun u w' d hf hR k1 k0 kM => ?_, fun u w' d hf hR k1 k0 kM => ?_, fun u w' d hf hR k1 k0 kM => ?_, fun u w' d hf hR k1 k0 kM => ?_, fun u w' d hf hR k1 k0 kM => ?_, fun u w' d hf hR k1 k0 kM => ?_, fun u w' d hf hR k1 k0 kM => ?_, fun u w' d hf hR k1 k0 kM => ?_, fun u w' d hf hR k1 k0 kM => ?_, fun u w' d hf hR k1 k0 kM => ?_, trivial⟩
    all_goals simp only [List.take_succ_cons, List.take_zero, List.map_cons, List.map_nil, puts, Act.put, List.setIfInBounds_toArray, List.set_cons_zero, List.set_cons_succ, Nat.reduceAdd, Nat.zero_add]
    · clear hR k1 k0 kM
      refine .inl ⟨by kernel_rfl, ?_⟩
      exact wp_load_mid _ _ rfl ga 0 rfl AV _ (range_blk (BA.out w' hf)) Tryd.underlying24 rfl HAV.out ⟨_, rfl, Fr.refl _ _, rfl, trivial⟩
    · clear hR k1 k0 kM
      refine .inl ⟨by kernel_rfl, ?_⟩
      exact wp_load_mid _ _ rfl gb 0 rfl BV _ (range_blk (BB.out w' hf)) Tryd.underlying24 rfl HBV.out ⟨_, rfl, Fr.refl _ _, rfl, trivial⟩
    · have h0 : u 0 = _ := hR 0 (by kernel_rfl)
      have h1 : u 1 = _ := hR 1 (by kernel_rfl)
      clear hR k1 k0 kM
      simp only [h0, h1]
      refine .inl ⟨by kernel_rfl, ?_⟩
      go_simp
      exact ⟨_, rfl, Fr.refl _ _, rfl, trivial⟩
    · have h2 : u 2 = _ := hR 2 (by kernel_rfl)
      clear hR k1 k0 kM
      simp only [h2]
      refine .inl ⟨by kernel_rfl, ?_⟩
      go_simp
      exact ⟨_, rfl, Fr.refl _ _, rfl, trivial⟩
    · have h3 : u 3 = _ := hR 3 (by kernel_rfl)
      clear hR k1 k0 kM
      simp only [h3]
      refine .inl ⟨by kernel_rfl, ?_⟩
      go_simp
      exact ⟨_, rfl, Fr.refl _ _, rfl, trivial⟩
    · have h4 : u 4 = _ := hR 4 (by kernel_rfl)
      have h3 : u 3 = _ := hR 3 (by kernel_rfl)
      clear hR k1 k0 kM
      simp only [h4, h3]
      refine .inl ⟨by kernel_rfl, ?_⟩
      go_simp
      exact ⟨_, rfl, Fr.refl _ _, rfl, trivial⟩
    · have h3 : u 3 = _ := hR 3 (by kernel_rfl)
      have h5 : u 5 = _ := hR 5 (by kernel_rfl)
      clear hR k1 k0 kM
      simp only [h3, h5]
      refine .inl ⟨by kernel_rfl, ?_⟩
      go_simp
      exact ⟨_, rfl, Fr.refl _ _, rfl, trivial⟩
    · have h6 : u 6 = _ := hR 6 (by kernel_rfl)
      clear hR k1 k0 kM
      simp only [h6]
      refine .inl ⟨by kernel_rfl, ?_⟩
      go_simp
      exact ⟨_, rfl, Fr.refl _ _, rfl, trivial⟩
    · have h7 : u 7 = _ := hR 7 (by kernel_rfl)
      clear hR k1 k0 kM
      simp only [h7]
      refine .inl ⟨by kernel_rfl, ?_⟩
      exact wp_load_mid _ _ rfl gr 0 rfl RV _ (range_blk (BR.out w' hf)) Tryd.underlying24 rfl HRV.out ⟨_, rfl, Fr.refl _ _, rfl, trivial⟩
    · have h7 : u 7 = _ := hR 7 (by kernel_rfl)
      clear hR k1 k0 kM
      simp only [h7]
      refine .inl ⟨by kernel_rfl, ?_⟩
      exact wp_load_mid _ _ rfl ga 0 rfl AV _ (range_blk (BA.out w' hf)) Tryd.underlying24 rfl HAV.out ⟨_, rfl, Fr.refl _ _, rfl, trivial⟩
    · have h7 : u 7 = _ := hR 7 (by kernel_rfl)
      clear hR k1 k0 kM
      simp only [h7]
      refine .inl ⟨by kernel_rfl, ?_⟩
      exact wp_load_mid _ _ rfl gb 0 rfl BV _ (range_blk (BB.out w' hf)) Tryd.underlying24 rfl HBV.out ⟨_, rfl, Fr.refl _ _, rfl, trivial⟩
    · have h9 : u 9 = _ := hR 9 (by kernel_rfl)
      have h10 : u 10 = _ := hR 10 (by kernel_rfl)
      have h7 : u 7 = _ := hR 7 (by kernel_rfl)
      clear hR k1 k0 kM
      simp only [h9, h10, h7]
      refine .inl ⟨by kernel_rfl, ?_⟩
      go_simp
      refine (CN.out _ (F0.out w' hf)).mono ?_
      rintro e w4 ⟨rfl, f4⟩
      exact ⟨_, rfl, f4.weak, rfl, trivial⟩
    · have h8 : u 8 = _ := hR 8 (by kernel_rfl)
      have h11 : u 11 = _ := hR 11 (by kernel_rfl)
      have h7 : u 7 = _ := hR 7 (by kernel_rfl)
      clear hR k1 k0 kM
      simp only [h8, h11, h7]
      refine .inl ⟨by kernel_rfl, ?_⟩
      go_simp
      exact ⟨_, rfl, Fr.refl _ _, rfl, trivial⟩
    · have h7 : u 7 = _ := hR 7 (by kernel_rfl)
      have h12 : u 12 = _ := hR 12 (by kernel_rfl)
      clear hR k1 k0 kM
      simp only [h7, h12]
      refine .inl ⟨by kernel_rfl, ?_⟩
      go_simp
      exact ⟨_, rfl, Fr.refl _ _, rfl, trivial⟩
    · have h13 : u 13 = _ := hR 13 (by kernel_rfl)
      clear hR k1 k0 kM
      simp only [h13]
      refine .inl ⟨by kernel_rfl, ?_⟩
      go_simp
      exact ⟨_, rfl, Fr.refl _ _, rfl, trivial⟩
    · have h14 : u 14 = _ := hR 14 (by kernel_rfl)
      clear hR k1 k0 kM
      simp only [h14]
      refine .inl ⟨by kernel_rfl, ?_⟩
      exact wp_load_mid _ _ rfl gr 0 rfl RV _ (range_blk (BR.out w' hf)) Tryd.underlying24 rfl HRV.out ⟨_, rfl, Fr.refl _ _, rfl, trivial⟩
    · have h14 : u 14 = _ := hR 14 (by kernel_rfl)
      clear hR k1 k0 kM
      simp only [h14]
      refine .inl ⟨by kernel_rfl, ?_⟩
      go_simp
      refine (rA.out _).mono ?_
      rintro e w4 ⟨rfl, f4⟩
      exact ⟨_, rfl, f4.weak, rfl, trivial⟩
    · have h14 : u 14 = _ := hR 14 (by kernel_rfl)
      clear hR k1 k0 kM
      simp only [h14]
      refine .inl ⟨by kernel_rfl, ?_⟩
      go_simp
      refine (rB.out _).mono ?_
      rintro e w4 ⟨rfl, f4⟩
      exact ⟨_, rfl, f4.weak, rfl, trivial⟩
    · have h16 : u 16 = _ := hR 16 (by kernel_rfl)
      have h17 : u 17 = _ := hR 17 (by kernel_rfl)
      have h14 : u 14 = _ := hR 14 (by kernel_rfl)
      clear hR k1 k0 kM
      simp only [h16, h17, h14]
      refine .inl ⟨by kernel_rfl, ?_⟩
      go_simp
      refine (rN.out _).mono ?_
      rintro e w4 ⟨rfl, f4⟩
      exact ⟨_, rfl, f4.weak, rfl, trivial⟩
    · have h15 : u 15 = _ := hR 15 (by kernel_rfl)
      have h18 : u 18 = _ := hR 18 (by kernel_rfl)
      have h14 : u 14 = _ := hR 14 (by kernel_rfl)
      clear hR k1 k0 kM
      simp only [h15, h18, h14]
      refine .inl ⟨by kernel_rfl, ?_⟩
      go_simp
      exact ⟨_, rfl, Fr.refl _ _, rfl, trivial⟩
    · have h14 : u 14 = _ := hR 14 (by kernel_rfl)
      have h19 : u 19 = _ := hR 19 (by kernel_rfl)
      clear hR k1 k0 kM
      simp only [h14, h19]
      refine .inl ⟨by kernel_rfl, ?_⟩
      go_simp
      exact ⟨_, rfl, Fr.refl _ _, rfl, trivial⟩
    · have h20 : u 20 = _ := hR 20 (by kernel_rfl)
      clear hR k1 k0 kM
      simp only [h20]
      refine .inl ⟨by kernel_rfl, ?_⟩
      go_simp
      exact ⟨_, rfl, Fr.refl _ _, rfl, trivial⟩
    · have h21 : u 21 = _ := hR 21 (by kernel_rfl)
      clear hR k1 k0 kM
      simp only [h21]
      refine .inl ⟨by kernel_rfl, ?_⟩
      go_simp
      exact ⟨_, rfl, Fr.refl _ _, rfl, trivial⟩
    · have h22 : u 22 = _ := hR 22 (by kernel_rfl)
      have h21 : u 21 = _ := hR 21 (by kernel_rfl)
      clear hR k1 k0 kM
      simp only [h22, h21]
      refine .inl ⟨by kernel_rfl, ?_⟩
      go_simp
      exact ⟨_, rfl, Fr.refl _ _, rfl, trivial⟩
    · have h21 : u 21 = _ := hR 21 (by kernel_rfl)
      have h23 : u 23 = _ := hR 23 (by kernel_rfl)
      clear hR k1 k0 kM
      simp only [h21, h23]
      refine .inl ⟨by kernel_rfl, ?_⟩
      go_simp
      exact ⟨_, rfl, Fr.refl _ _, rfl, trivial⟩
    · have h24 : u 24 = _ := hR 24 (by kernel_rfl)
      clear hR k1 k0 kM
      simp only [h24]
      refine .inl ⟨by kernel_rfl, ?_⟩
      go_simp
      exact ⟨_, rfl, Fr.refl _ _, rfl, trivial⟩
    · have h25 : u 25 = _ := hR 25 (by kernel_rfl)
      clear hR k1 k0 kM
      simp only [h25]
      refine .inl ⟨by kernel_rfl, ?_⟩
      go_simp
      exact ⟨_, rfl, Fr.refl _ _, rfl, trivial⟩
    · have h25 : u 25 = _ := hR 25 (by kernel_rfl)
      clear hR k1 k0 kM
      simp only [h25]
      refine .inl ⟨by kernel_rfl, ?_⟩
      exact wp_load_mid _ _ rfl ga 0 rfl AV _ (range_blk (BA.out w' hf)) Tryd.underlying24 rfl HAV.out ⟨_, rfl, Fr.refl _ _, rfl, trivial⟩
    · have h26 : u 26 = _ := hR 26 (by kernel_rfl)
      have h27 : u 27 = _ := hR 27 (by kernel_rfl)
      have h25 : u 25 = _ := hR 25 (by kernel_rfl)
      clear hR
      simp only [h26, h27, h25]
      refine .inl ⟨by kernel_rfl, ?_⟩
      have hN : Blk w' gt 102 #[.slice none 0 0, .map none] := by rw [stage, if_neg (by rw [k0 28 (by kernel_rfl)]; exact Bool.false_ne_true)] at kM; exact kM
      clear k1 k0 kM
      go_simp
      refine (CP'.out _ hN).mono ?_
      rintro e w4 ⟨rfl, f4, h4⟩
      exact ⟨_, rfl, f4, rfl, h4⟩
    · have h28 : u 28 = _ := hR 28 (by kernel_rfl)
      have h25 : u 25 = _ := hR 25 (by kernel_rfl)
      clear hR k1 k0 kM
      simp only [h28, h25]
      refine .inl ⟨by kernel_rfl, ?_⟩
      go_simp
      exact ⟨_, rfl, Fr.refl _ _, rfl, trivial⟩
    · have h25 : u 25 = _ := hR 25 (by kernel_rfl)
      have h29 : u 29 = _ := hR 29 (by kernel_rfl)
      clear hR k1 k0 kM
      simp only [h25, h29]
      refine .inl ⟨by kernel_rfl, ?_⟩
      go_simp
      exact ⟨_, rfl, Fr.refl _ _, rfl, trivial⟩
    · have h30 : u 30 = _ := hR 30 (by kernel_rfl)
      clear hR k1 k0 kM
      simp only [h30]
      refine .inl ⟨by kernel_rfl, ?_⟩
      go_simp
      exact ⟨_, rfl, Fr.refl _ _, rfl, trivial⟩
    · have h31 : u 31 = _ := hR 31 (by kernel_rfl)
      clear hR k1 k0 kM
      simp only [h31]
      refine .inl ⟨by kernel_rfl, ?_⟩
      go_simp
      exact ⟨_, rfl, Fr.refl _ _, rfl, trivial⟩
    · have h32 : u 32 = _ := hR 32 (by kernel_rfl)
      have h31 : u 31 = _ := hR 31 (by kernel_rfl)
      clear hR
      simp only [h32, h31]
      refine .inl ⟨by kernel_rfl, ?_⟩
      have hN : ∃ A c, w'.cell? ⟨gt, 0, none⟩ = some (.slice A 1 c) := by rw [stage, if_pos (k1 28 (by omega) (by kernel_rfl))] at kM; exact kM
      clear k1 k0 kM
      obtain ⟨A, c, hc⟩ := hN
      go_simp
      refine (Len_any gt A 1 c _ hc).mono ?_
      rintro e w4 ⟨rfl, rfl⟩
      exact ⟨_, rfl, Fr.refl _ _, rfl, trivial⟩
    · have h33 : u 33 = _ := hR 33 (by kernel_rfl)
      have h31 : u 31 = _ := hR 31 (by kernel_rfl)
      clear hR k1 k0 kM
      simp only [h33, h31]
      refine .inl ⟨by kernel_rfl, ?_⟩
      go_simp
      exact ⟨_, rfl, Fr.refl _ _, rfl, trivial⟩
    · have h31 : u 31 = _ := hR 31 (by kernel_rfl)
      have h34 : u 34 = _ := hR 34 (by kernel_rfl)
      clear hR k1 k0 kM
      simp only [h31, h34]
      refine .inl ⟨by kernel_rfl, ?_⟩
      go_simp
      exact ⟨_, rfl, Fr.refl _ _, rfl, trivial⟩
  · intro u w' hf hR kM
    have h35 : u 35 = _ := hR 35 (by omega)
    clear hR kM
    simp only [List.take_succ_cons, List.take_zero, List.map_cons, List.map_nil, puts, Act.put, List.setIfInBounds_toArray, List.set_cons_zero, List.set_cons_succ, List.drop_succ_cons, List.drop_zero, Nat.reduceAdd, Nat.zero_add, h35]
    have JF := Lib.hid (F0.out w' hf)
    clear hf
    go_wp2
    go_ret
    exact ⟨rfl, JF.out⟩
end Go.Proofs.YtkaghbpdnmigmaaDoor
