/- LogtreeFrom: the walk (written by genX.py). -/
import Derived.Test.YtkaghbpdnmigmaaDoorNdE
import Derived.Test.YtkaghbpdnmigmaaDoorLtW
namespace Go.Proofs.YtkaghbpdnmigmaaDoor
open Go.RowKit

set_option maxRecDepth 100000 in
set_option maxHeartbeats 4000000 in
theorem LogtreeFrom_any (c : ClaimV) (w : World) (hc : c.good w) (hT : ShaTab w) : Calls Tryd.prog 4 #[c.val] w (Same' w (.bool true)) := by
  obtain ⟨leaf, ix, nn, A, len, cap, path⟩ := c
  obtain ⟨hleaf, hix, hnn, hD, hle, hcap⟩ := hc
  simp only at hleaf hix hnn hD hle hcap
  unfold ClaimV.val
  simp only
  have CK : Hid (∀ w', Fr Nothing w w' → Calls Tryd.prog 15 #[] w' (Same' w' (.bool true))) := fun w' hf => known_any w' (hT.fr0 hf)
  have HL := Lib.hid hD.len
  have HE := Lib.hid hD.each
  have CX' : len ≤ 1048576 → Hid (∀ w' A' c' S', Fr Nothing w w' → DigL w' S' A' len path → len ≤ c' → c' ≤ 9223372036854775807 → Calls Tryd.prog 22 #[digV leaf, .int .i64 ix, .int .i64 nn, .slice A' len c'] w' (Same' w' (.tuple #[digV (nodesV leaf ix nn path).1, .int .i64 (nodesV leaf ix nn path).2.2]))) :=
    fun hl w' A' c' S' hf hD' _ _ => From_any leaf hleaf ix nn hnn path len A' c' S' w' hD' hl (hT.fr0 hf)
  have CY : Hid (∀ w', Fr Nothing w w' → Calls Tryd.prog 23 #[digV leaf, .int .i64 ix, .int .i64 nn, .slice A len cap] w' (Same' w' (.tuple #[digV (nodesV leaf ix nn path).1, .int .i64 (nodesV leaf ix nn path).2.2]))) :=
    fun w' hf => rFrom_any leaf hleaf ix nn path len A cap _ w' (hD.fr0 hf) hle hcap
  have la := nodesV_length leaf hleaf ix nn path hD.each
  have lL : (digC leaf).length = 32 := by rw [digC, List.length_map, hleaf]
  have CO' : len ≤ 1048576 → Hid (∀ w', Fr Nothing w w' → Calls Tryd.prog 14 #[.slice A len cap] w' (Owned w' len path)) := fun hl w' hf => own_any len path A cap _ w' (hD.fr0 hf) hl
  generalize (nodesV leaf ix nn path).1 = ra at *
  generalize (nodesV leaf ix nn path).2.2 = E at *
  have DA : Hid (Dig (digC ra).toArray) := Dig.of la
  have HAV : Hid ((Tryd.prog.info? 24).map (·.size) = some (digC ra).length) := by rw [digC, List.length_map, la]; exact infoD
  have RAV : Hid ((Tryd.prog.info? 23).map (·.size) = some (digC ra).length) := by rw [digC, List.length_map, la]; exact info32
  have HLV : Hid ((Tryd.prog.info? 23).map (·.size) = some (digC leaf).length) := by rw [lL]; exact info32
  have qa : Hid (∀ w : World, (binOp .eql 23 (digV ra) (digV ra)).run Tryd.prog w = .ok (.bool true) w) := fun w => by
    rw [run_eqD w _ Tryd.underlying23 ra ra la la, decide_eq_true rfl]
  have LL := Lib.hid lL
  clear la lL hleaf hix hnn hD hT
  unfold digV at *
  simp only [show ∀ l : List UInt8, l.map bvI = digC l from fun _ => rfl] at *
  generalize digC leaf = LV at *
  generalize digC ra = AV at *
  go_enter Tryd.func4, Tryd.ntmps4
  go_wp2_with (refine wpList_boxBlk rfl 40 (.tmp 0) rfl _ rfl ?_)
  intro w1 n1
  have B1 : Hid (Blk w1 w.heap.size 40 (LV ++ [Value.int .i64 ix, Value.int .i64 nn, Value.slice A len cap]).toArray) := n1.blk
  have F1 := Lib.hid n1.fr
  clear n1
  generalize w.heap.size = g1 at *
  obtain ⟨x32, x33, x34, _⟩ := claim_cells B1.out LL.out
  by_cases h30 : 30 < len
  · have t1 : decide ((30 : Int) < (len : Int)) = true := decide_eq_true (by omega)
    clear CO' CX'
    go_wp2_with fail
    refine (CK.out _ F1.out).mono ?_
    rintro e w2 ⟨rfl, f2⟩
    have F2 := Lib.hid (F1.out.trans f2)
    clear f2
    go_wp2
    go_ret
    exact ⟨rfl, F2.out⟩
  · have t1 : decide ((30 : Int) < (len : Int)) = false := decide_eq_false (by omega)
    have CO := CO' (by omega)
    have CX := CX' (by omega)
    have C32 : Hid (∀ w', Fr Nothing w1 w' → w'.cell? ⟨g1, 32, none⟩ = some (.int .i64 ix)) := fun w' hf => hf.cellSome x32 (fun x => x)
    have C33 : Hid (∀ w', Fr Nothing w1 w' → w'.cell? ⟨g1, 33, none⟩ = some (.int .i64 nn)) := fun w' hf => hf.cellSome x33 (fun x => x)
    have C34 : Hid (∀ w', Fr Nothing w1 w' → w'.cell? ⟨g1, 34, none⟩ = some (.slice A len cap)) := fun w' hf => hf.cellSome x34 (fun x => x)
    have RG : Hid (∀ w', Fr Nothing w1 w' → w'.rangeAt g1 0 LV) := fun w' hf => (claim_cells (B1.out.fr hf (fun x => x)) LL.out).2.2.2
    clear CO' CX'
    go_upto_region 3 with fail
    clear x32 x33 x34
    refine wp_region_new 15 24 [fun v => v = .pointer (some ⟨g1, 0, none⟩), fun v => v = .agg LV.toArray, fun v => v = .pointer (some ⟨g1, 32, none⟩), fun v => v = .int .i64 ix, fun v => v = .pointer (some ⟨g1, 33, none⟩), fun v => v = .int .i64 nn, fun v => v = .pointer (some ⟨g1, 34, none⟩), fun v => v = .slice A len cap, fun _ => True, fun v => v = .tuple #[.agg AV.toArray, .int .i64 E], fun v => v = .tuple #[.agg AV.toArray, .int .i64 E], fun v => v = .agg AV.toArray, fun v => v = .int .i64 E, fun _ => True, fun _ => True] [fun _ _ => True, fun _ _ => True, fun _ _ => True, fun _ _ => True, fun _ _ => True, fun _ _ => True, fun _ _ => True, fun _ _ => True, OwnS len path, fun _ _ => True, fun _ _ => True, fun _ _ => True, fun _ _ => True, fun _ _ => True, fun _ _ => True] [(13, zero32c)] [(14, 13, AV.toArray)] (by kernel_rfl) (by kernel_rfl) (by kernel_rfl) ⟨fun _ _ _ _ _ h => h, fun _ _ _ _ _ h => h, fun _ _ _ _ _ h => h, fun _ _ _ _ _ h => h, fun _ _ _ _ _ h => h, fun _ _ _ _ _ h => h, fun _ _ _ _ _ h => h, fun _ _ _ _ _ h => h, OwnS.stable, fun _ _ _ _ _ h => h, fun _ _ _ _ _ h => h, fun _ _ _ _ _ h => h, fun _ _ _ _ _ h => h, fun _ _ _ _ _ h => h, fun _ _ _ _ _ h => h, trivial⟩ ?_ ?_
    · refine ⟨fun u w' hf hR hW => ?_, fun u w' hf hR hW => ?_, fun u w' hf hR hW => ?_, fun u w' hf hR hW => ?_, fun u w' hf hR hW => ?_, fun u w' hf hR hW => ?_, fun u w' hf hR hW => ?_, fun u w' hf hR hW => ?_, fun u w' hf hR hW => ?_, fun u w' hf hR hW => ?_, fun u w' hf hR hW => ?_, fun u w' hf hR hW => ?_, fun u w' hf hR hW => ?_, fun u w' hf hR => ?_, fun u w' g hf hR hg hb => ?_, trivial⟩
      all_goals simp only [List.take_succ_cons, List.take_zero, List.map_cons, List.map_nil, puts, Act.put, List.setIfInBounds_toArray, List.set_cons_zero, List.set_cons_succ, Nat.reduceAdd, Nat.zero_add]
      · clear hR hW
        refine .inl ⟨by kernel_rfl, ?_⟩
        go_simp
        exact ⟨_, rfl, rfl, trivial, Fr.refl _ _⟩
      · have h0 : u 0 = _ := hR 0 (by kernel_rfl)
        clear hR hW
        simp only [h0]
        refine .inl ⟨by kernel_rfl, ?_⟩
        exact wp_load_mid _ _ rfl g1 0 rfl LV _ (RG.out _ hf) Tryd.underlying23 rfl HLV.out ⟨_, rfl, rfl, trivial, Fr.refl _ _⟩
      · clear hR hW
        refine .inl ⟨by kernel_rfl, ?_⟩
        go_simp
        exact ⟨_, rfl, rfl, trivial, Fr.refl _ _⟩
      · have h2 : u 2 = _ := hR 2 (by kernel_rfl)
        clear hR hW
        simp only [h2]
        refine .inl ⟨by kernel_rfl, ?_⟩
        have hc := C32.out _ hf
        go_simp
        exact ⟨_, rfl, rfl, trivial, Fr.refl _ _⟩
      · clear hR hW
        refine .inl ⟨by kernel_rfl, ?_⟩
        go_simp
        exact ⟨_, rfl, rfl, trivial, Fr.refl _ _⟩
      · have h4 : u 4 = _ := hR 4 (by kernel_rfl)
        clear hR hW
        simp only [h4]
        refine .inl ⟨by kernel_rfl, ?_⟩
        have hc := C33.out _ hf
        go_simp
        exact ⟨_, rfl, rfl, trivial, Fr.refl _ _⟩
      · clear hR hW
        refine .inl ⟨by kernel_rfl, ?_⟩
        go_simp
        exact ⟨_, rfl, rfl, trivial, Fr.refl _ _⟩
      · have h6 : u 6 = _ := hR 6 (by kernel_rfl)
        clear hR hW
        simp only [h6]
        refine .inl ⟨by kernel_rfl, ?_⟩
        have hc := C34.out _ hf
        go_simp
        exact ⟨_, rfl, rfl, trivial, Fr.refl _ _⟩
      · have h7 : u 7 = _ := hR 7 (by kernel_rfl)
        clear hR hW
        simp only [h7]
        refine .inl ⟨by kernel_rfl, ?_⟩
        go_simp
        refine (CO.out _ (F1.out.trans hf)).mono ?_
        rintro e w4 ⟨v, rfl, hG⟩
        exact ⟨_, rfl, trivial, OwnS.of hG HL.out HE.out, hG.fr0⟩
      · have h1 : u 1 = _ := hR 1 (by kernel_rfl)
        have h3 : u 3 = _ := hR 3 (by kernel_rfl)
        have h5 : u 5 = _ := hR 5 (by kernel_rfl)
        obtain ⟨A8, c8, h8, l8, m8, S8, D8⟩ := hW (by kernel_rfl) 8 (by kernel_rfl)
        clear hR hW
        simp only [h1, h3, h5, h8]
        refine .inl ⟨by kernel_rfl, ?_⟩
        go_simp
        refine (CX.out _ A8 c8 S8 (F1.out.trans hf) D8 l8 m8).mono ?_
        rintro e w4 ⟨rfl, f4⟩
        exact ⟨_, rfl, rfl, trivial, f4⟩
      · have h9 : u 9 = _ := hR 9 (by kernel_rfl)
        clear hR hW
        simp only [h9]
        refine .inl ⟨by kernel_rfl, ?_⟩
        go_simp
        exact ⟨_, rfl, rfl, trivial, Fr.refl _ _⟩
      · have h10 : u 10 = _ := hR 10 (by kernel_rfl)
        clear hR hW
        simp only [h10]
        refine .inl ⟨by kernel_rfl, ?_⟩
        go_simp
        exact ⟨_, rfl, rfl, trivial, Fr.refl _ _⟩
      · have h10 : u 10 = _ := hR 10 (by kernel_rfl)
        clear hR hW
        simp only [h10]
        refine .inl ⟨by kernel_rfl, ?_⟩
        go_simp
        exact ⟨_, rfl, rfl, trivial, Fr.refl _ _⟩
      · clear hR
        refine .inl ⟨by kernel_rfl, ?_⟩
        refine wp_allocBlk 24 rfl zero32 zvD zero32c rfl ?_
        intro w4 n4
        exact ⟨_, rfl, trivial, trivial, rfl, n4⟩
      · have h11 : u 11 = _ := hR 11 (by kernel_rfl)
        clear hR
        simp only [h11, hg]
        refine .inl ⟨by kernel_rfl, ?_⟩
        obtain ⟨cs, hm, hb⟩ := hb
        obtain rfl : cs = zero32c := by simpa using hm
        refine wp_storeBlk 24 (.tmp 3) (.tmp 23) rfl g AV.toArray rfl rfl _ _ hb DA.out.info DA.out.zero DA.out.one ?_
        intro w4 b4 f4
        exact ⟨_, rfl, trivial, b4, f4⟩
    · intro u w' hf hR hN hA
      have h12 : u 12 = _ := hR 12 (by omega)
      obtain ⟨g3, h13, l3, b3⟩ := hN 13 zero32c (by simp)
      have B3' : Hid (Blk w' g3 24 AV.toArray) := b3
      have F3 := Lib.hid hf
      clear hR hN hA hf b3 l3 CO CX
      simp only [List.take_succ_cons, List.take_zero, List.map_cons, List.map_nil, puts, Act.put, List.setIfInBounds_toArray, List.set_cons_zero, List.set_cons_succ, List.drop_succ_cons, List.drop_zero, Nat.reduceAdd, Nat.zero_add, h12, h13]
      have x32 : w'.cell? ⟨g1, 32, none⟩ = some (.int .i64 ix) := C32.out _ F3.out
      have x33 : w'.cell? ⟨g1, 33, none⟩ = some (.int .i64 nn) := C33.out _ F3.out
      have x34 : w'.cell? ⟨g1, 34, none⟩ = some (.slice A len cap) := C34.out _ F3.out
      go_wp2_with (refine wpList_load_add rfl 23 (.tmp 26) rfl ⟨g1, 0, none⟩ rfl LV _ (range_add (RG.out _ F3.out)) Tryd.underlying23 rfl HLV.out ?_)
      refine (CY.out _ (F1.out.trans F3.out)).mono ?_
      rintro e w4 ⟨rfl, f4⟩
      have F4 := Lib.hid (F3.out.trans f4)
      have B34 := Lib.hid (B3'.out.fr f4 (fun x => x))
      clear f4 F3 B3' CY x32 x33 x34
      go_wp2_with (refine wpList_allocBlk rfl 23 rfl zero32 zv32 zero32c rfl ?_)
      intro w5 n5
      have B65 := Lib.hid n5.blk
      have F5 := Lib.hid (F4.out.trans n5.fr)
      have B35 := Lib.hid (B34.out.fr n5.fr (fun x => x))
      have z5 : Hid (g3 < w4.heap.size ∧ w1.heap.size ≤ w4.heap.size) := ⟨B34.out.lt, F4.out.size⟩
      clear n5 F4 B34
      generalize w4.heap.size = g6 at *
      go_wp2_with (refine wpList_storeBlk rfl 23 (.tmp 5) _ rfl g6 AV.toArray rfl rfl _ _ B65.out DA.out.infoR DA.out.zero DA.out.one ?_)
      intro w7 b7 f7
      have B6 := Lib.hid b7
      have B3 := Lib.hid (B35.out.fr f7 (fun e => by have e' : g3 = g6 := e; have := z5.out; omega))
      have F9 : Hid (Fr Nothing w w7) := F1.out.trans (F5.out.then_ f7 (fun i hi e => by have e' : i = g6 := e; have := z5.out; omega))
      clear b7 f7 F5 B35 B65 z5 F1
      go_upto_region 5 with fail
      refine wp_region_sq 11 Nothing [Is (.bool true), Is (.bool true), Is (.int .i64 E), Is (.int .i64 E), Is (.bool true), Is (.bool true), Is (.bool true), Is (.agg AV.toArray), Is (.agg AV.toArray), Is (.bool true), Is (.bool true)] [] (fun _ => True) (fun _ _ => false) (by kernel_rfl) (by kernel_rfl) (by kernel_rfl) ⟨Is.stable _, Is.stable _, Is.stable _, Is.stable _, Is.stable _, Is.stable _, Is.stable _, Is.stable _, Is.stable _, Is.stable _, Is.stable _, trivial⟩ trivial (fun _ _ _ _ h => h) trivial ?_ ?_
      · refine ⟨fun u w' d hf hR k1 k0 kM => ?_, fun u w' d hf hR k1 k0 kM => ?_, fun u w' d hf hR k1 k0 kM => ?_, fun u w' d hf hR k1 k0 kM => ?_, fun u w' d hf hR k1 k0 kM => ?_, fun u w' d hf hR k1 k0 kM => ?_, fun u w' d hf hR k1 k0 kM => ?_, fun u w' d hf hR k1 k0 kM => ?_, fun u w' d hf hR k1 k0 kM => ?_, fun u w' d hf hR k1 k0 kM => ?_, fun u w' d hf hR k1 k0 kM => ?_, trivial⟩
        all_goals simp only [List.take_succ_cons, List.take_zero, List.map_cons, List.map_nil, puts, Act.put, List.setIfInBounds_toArray, List.set_cons_zero, List.set_cons_succ, Nat.reduceAdd, Nat.zero_add]
        · clear hR k1 k0 kM
          refine .inl ⟨by kernel_rfl, ?_⟩
          go_simp
          refine (CK.out _ (F9.out.trans hf)).mono ?_
          rintro e w4 ⟨rfl, f4⟩
          exact ⟨_, rfl, f4.weak, rfl, trivial⟩
        · have h0 : u 0 = _ := hR 0 (by kernel_rfl)
          clear hR k1 k0 kM
          simp only [h0]
          refine .inl ⟨by kernel_rfl, ?_⟩
          go_simp
          exact ⟨_, rfl, Fr.refl _ _, rfl, trivial⟩
        · have h1 : u 1 = _ := hR 1 (by kernel_rfl)
          clear hR k1 k0 kM
          simp only [h1]
          refine .inl ⟨by kernel_rfl, ?_⟩
          go_simp
          exact ⟨_, rfl, Fr.refl _ _, rfl, trivial⟩
        · have h1 : u 1 = _ := hR 1 (by kernel_rfl)
          clear hR k1 k0 kM
          simp only [h1]
          refine .inl ⟨by kernel_rfl, ?_⟩
          go_simp
          exact ⟨_, rfl, Fr.refl _ _, rfl, trivial⟩
        · have h2 : u 2 = _ := hR 2 (by kernel_rfl)
          have h3 : u 3 = _ := hR 3 (by kernel_rfl)
          have h1 : u 1 = _ := hR 1 (by kernel_rfl)
          clear hR k1 k0 kM
          simp only [h2, h3, h1]
          refine .inl ⟨by kernel_rfl, ?_⟩
          go_simp
          exact ⟨_, rfl, Fr.refl _ _, rfl, trivial⟩
        · have h1 : u 1 = _ := hR 1 (by kernel_rfl)
          have h4 : u 4 = _ := hR 4 (by kernel_rfl)
          clear hR k1 k0 kM
          simp only [h1, h4]
          refine .inl ⟨by kernel_rfl, ?_⟩
          go_simp
          exact ⟨_, rfl, Fr.refl _ _, rfl, trivial⟩
        · have h5 : u 5 = _ := hR 5 (by kernel_rfl)
          clear hR k1 k0 kM
          simp only [h5]
          refine .inl ⟨by kernel_rfl, ?_⟩
          go_simp
          exact ⟨_, rfl, Fr.refl _ _, rfl, trivial⟩
        · have h6 : u 6 = _ := hR 6 (by kernel_rfl)
          clear hR k1 k0 kM
          simp only [h6]
          refine .inl ⟨by kernel_rfl, ?_⟩
          exact wp_load_mid _ _ rfl g3 0 rfl AV _ (range_blk (B3.out.fr hf (fun x => x))) Tryd.underlying24 rfl HAV.out ⟨_, rfl, Fr.refl _ _, rfl, trivial⟩
        · have h6 : u 6 = _ := hR 6 (by kernel_rfl)
          clear hR k1 k0 kM
          simp only [h6]
          refine .inl ⟨by kernel_rfl, ?_⟩
          exact wp_load_mid _ _ rfl g6 0 rfl AV _ (range_blk (B6.out.fr hf (fun x => x))) Tryd.underlying23 rfl RAV.out ⟨_, rfl, Fr.refl _ _, rfl, trivial⟩
        · have h7 : u 7 = _ := hR 7 (by kernel_rfl)
          have h8 : u 8 = _ := hR 8 (by kernel_rfl)
          have h6 : u 6 = _ := hR 6 (by kernel_rfl)
          clear hR k1 k0 kM
          simp only [h7, h8, h6]
          refine .inl ⟨by kernel_rfl, ?_⟩
          exact wp_binAgg _ _ _ _ _ rfl _ _ rfl rfl Tryd.eqGuardType23 _ (qa.out _) ⟨_, rfl, Fr.refl _ _, rfl, trivial⟩
        · have h6 : u 6 = _ := hR 6 (by kernel_rfl)
          have h9 : u 9 = _ := hR 9 (by kernel_rfl)
          clear hR k1 k0 kM
          simp only [h6, h9]
          refine .inl ⟨by kernel_rfl, ?_⟩
          go_simp
          exact ⟨_, rfl, Fr.refl _ _, rfl, trivial⟩
      · intro u w' hf hR kM
        have h10 : u 10 = _ := hR 10 (by omega)
        clear hR kM
        simp only [List.take_succ_cons, List.take_zero, List.map_cons, List.map_nil, puts, Act.put, List.setIfInBounds_toArray, List.set_cons_zero, List.set_cons_succ, List.drop_succ_cons, List.drop_zero, Nat.reduceAdd, Nat.zero_add, h10]
        have JF := Lib.hid (F9.out.trans hf)
        clear hf
        go_wp2
        go_ret
        exact ⟨rfl, JF.out⟩
end Go.Proofs.YtkaghbpdnmigmaaDoor
