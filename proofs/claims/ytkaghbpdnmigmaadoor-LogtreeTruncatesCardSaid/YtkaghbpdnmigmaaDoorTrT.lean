/- slices.Clone and slices.Equal on digests; Tree.Equal: written by genTrT.py. -/
import Derived.Test.YtkaghbpdnmigmaaDoorTrJ
namespace Go.Proofs.YtkaghbpdnmigmaaDoor
open Go.RowKit

theorem run_build_empty {P : Program} (w : World) (t e : TypeId) (ie : TypeInfo) (hu : P.underlying t = some (.slice e)) (hie : P.info? e = some ie) :
    (Instr.buildSlice t 0 #[]).run P w = .ok (.slice (some ⟨w.heap.size, 0, none⟩) 0 0) (w.alloc (.cells #[] e)) := by
  have hn : ∀ cs : Array Value, (newRow e cs).run P w = .ok ⟨w.heap.size, 0, none⟩ (w.alloc (.cells cs e)) := fun cs => rfl
  simp [Instr.buildSlice, run_underlying hu, sizeOf, typeInfo, hie, Result.andThen, Instr.fill, hn]
  rw [show (Array.range 0).map (fun _ => (default : Value)) = #[] from Array.eq_empty_of_size_eq_zero (by simp)]
theorem wp_emptyRow {P : Program} {o : Oper} {a : Act} {w : World} {K : Act → World → Prop} {Q : Exit → Act → World → Prop} (t e : TypeId) (ho : o.op = .buildSlice t 0 #[]) (ie : TypeInfo)
    (hu : P.underlying t = some (.slice e)) (hie : P.info? e = some ie) (h : ∀ w', NewBlk w w' e #[] → K (a.put o.dst (.slice (some ⟨w.heap.size, 0, none⟩) 0 0)) w') : o.wp P a w K Q := by
  unfold Oper.wp
  simp [execOp, ho, run_build_empty w t e ie hu hie, Result.andThen]
  exact h _ (NewBlk.alloc w e #[])
theorem wpList_emptyRow {P : Program} {ops : Array Oper} {rest : List Oper} {o : Oper} {a : Act} {w : World} {Q : Exit → Act → World → Prop} (hg : o.guard = none) (t e : TypeId) (ho : o.op = .buildSlice t 0 #[]) (ie : TypeInfo)
    (hu : P.underlying t = some (.slice e)) (hie : P.info? e = some ie) (h : ∀ w', NewBlk w w' e #[] → wpList P ops Q rest (a.put o.dst (.slice (some ⟨w.heap.size, 0, none⟩) 0 0)) w') : wpList P ops Q (o :: rest) a w :=
  wpList_plain hg fun _ hK => wp_emptyRow t e ho ie hu hie fun w' hn => hK _ _ (h w' hn)
theorem NewBlk.own0 {w w' : World} {e : TypeId} {size : Nat} (h : NewBlk w w' e #[]) : w'.ownsRow 0 e size (.slice (some ⟨w.heap.size, 0, none⟩) 0 0) 0 [] :=
  ⟨by simp, .inr ⟨w.heap.size, 0, #[], rfl, Nat.zero_le _, h.blk, Nat.le_refl _, Nat.zero_le _, by simp, by simp⟩⟩

set_option maxRecDepth 100000 in
theorem eqNil (w : World) (a : Option Addr) (l c : Nat) : (binOp .eql 29 (.slice a l c) (.slice none 0 0)).run Tryd.prog w = .ok (.bool a.isNone) w := by
  simp only [binOp]
  simp [run_equal_slice_nil w 29 24 a l c Tryd.underlying29]

set_option maxRecDepth 100000 in
set_option maxHeartbeats 1000000 in
theorem slClone_nil (c : Nat) (w : World) : Calls Tryd.prog 64 #[.slice none 0 c] w (Owned w 0 []) := by
  have hq : ∀ w : World, (binOp .eql 29 (.slice none 0 c) (.slice none 0 0)).run Tryd.prog w = .ok (.bool true) w := fun w => eqNil w none 0 c
  go_enter Tryd.func64, Tryd.ntmps64
  go_wp2
  go_ret
  exact ⟨_, rfl, Grew.start ⟨rfl, .inl ⟨rfl, rfl⟩⟩⟩

set_option maxRecDepth 100000 in
set_option maxHeartbeats 2000000 in
theorem slClone_some (n : Nat) (ds : List (List UInt8)) (ad : Addr) (c : Nat) (S : Nat → Prop) (w : World) (hD : DigL w S (some ad) n ds) (hn : n ≤ 1048576) :
    Calls Tryd.prog 64 #[.slice (some ad) n c] w (Owned w n ds) := by
  obtain ⟨i0, hi0, hz0, hz1, hz2⟩ := info_parts infoDp
  have hq : ∀ w : World, (binOp .eql 29 (.slice (some ad) n c) (.slice none 0 0)).run Tryd.prog w = .ok (.bool false) w := fun w => eqNil w (some ad) n c
  have HD := Lib.hid hD
  have HO : Hid (∀ u ∈ ds.flatMap digC, u.oneCell' = true) := by
    intro u hu
    obtain ⟨d, _, hd⟩ := List.mem_flatMap.1 hu
    exact oneCell_bvI d u hd
  clear hD
  go_enter Tryd.func64, Tryd.ntmps64
  go_wp2_with (refine wpList_emptyRow rfl 29 24 rfl i0 Tryd.underlying29 hi0 ?_)
  intro w1 nn
  have N1 := Lib.hid nn
  clear nn
  generalize hg1 : w.heap.size = g1 at *
  have HG1 := Lib.hid hg1
  clear hg1
  have O1 : Hid (w1.ownsRow 0 24 32 (.slice (some ⟨g1, 0, none⟩) 0 0) 0 []) := by rw [← HG1.out]; exact N1.out.own0
  go_wp2_with (refine wpList_app _ rfl _ _ 29 rfl 24 i0 zero32 32 32 Tryd.underlying29 hi0 hz0 hz1 hz2 rfl (by decide) _ _ _ rfl O1.out S (some ad) n c (ds.flatMap digC) rfl (HD.out.fr0 N1.out.fr).rd HO.out (by omega) (by decide) ?_)
  intro v2 w2 hG
  have K2 : Hid (Grew 24 32 w (.slice none 0 0) w2 v2 n (ds.flatMap digC)) := by
    have h := Grew.fresh N1.out.fr (fun k hk => by simp only [Value.ownBlock, Option.some.injEq] at hk; have := HG1.out; omega) hG
    exact h
  clear hG
  go_wp2
  go_ret
  exact ⟨_, rfl, K2.out⟩
theorem slClone_any (n : Nat) (ds : List (List UInt8)) (A : Option Addr) (c : Nat) (S : Nat → Prop) (w : World) (hD : DigL w S A n ds) (hn : n ≤ 1048576) : Calls Tryd.prog 64 #[.slice A n c] w (Owned w n ds) := by
  cases A with
  | some ad => exact slClone_some n ds ad c S w hD hn
  | none =>
    rcases Nat.eq_zero_or_pos n with rfl | h
    · have : ds = [] := List.eq_nil_of_length_eq_zero hD.len
      rw [this]
      exact slClone_nil c w
    · obtain ⟨ad, h, _⟩ := hD.rd.2 h
      cases h

set_option maxRecDepth 100000 in
set_option maxHeartbeats 1000000 in
theorem slEqual_no (n m : Nat) (A B : Option Addr) (c c2 : Nat) (w : World) (h : n ≠ m) :
    Calls Tryd.prog 69 #[.slice A n c, .slice B m c2] w (Same' w (.bool false)) := by
  have t1 : ((n : Int) != (m : Int)) = true := by rw [bne_iff_ne]; omega
  have t2 : ((n : Int) == (m : Int)) = false := by rw [beq_eq_false_iff_ne]; omega
  go_enter Tryd.func69, Tryd.ntmps69
  go_wp2
  go_ret
  exact ⟨rfl, Fr.refl _ _⟩

set_option maxRecDepth 100000 in
set_option maxHeartbeats 2000000 in
theorem slEqual_yes (n : Nat) (ds : List (List UInt8)) (A B : Option Addr) (c c2 : Nat) (S S2 : Nat → Prop) (w : World) (hD : DigL w S A n ds) (hE : DigL w S2 B n ds) (hn : n ≤ 1048576) :
    Calls Tryd.prog 69 #[.slice A n c, .slice B n c2] w (Same' w (.bool true)) := by
  have HD := Lib.hid hD
  have HE := Lib.hid hE
  clear hD hE
  go_enter Tryd.func69, Tryd.ntmps69
  go_wp2
  go_loopw [13] (fun i wr => ∃ k : Nat, k ≤ n ∧ i = .int .i64 k ∧ Fr Nothing w wr) (fun i _ => n - (intOf i).toNat)
  case atStart => exact ⟨0, Nat.zero_le _, rfl, Fr.refl _ _⟩
  case round =>
    obtain ⟨k, hk, rfl, hf⟩ := hrel
    have HF := Lib.hid hf
    clear hf
    by_cases hlt : k < n
    · obtain ⟨ad, d, rfl, _, hd, hd32, hcell⟩ := (HD.out.fr0 HF.out).at_ hlt
      obtain ⟨ae, d', rfl, _, hd', _, hcell'⟩ := (HE.out.fr0 HF.out).at_ hlt
      obtain rfl : d = d' := by rw [hd] at hd'; exact Option.some.inj hd'
      have HCA := Lib.hid hcell
      have HCB := Lib.hid hcell'
      have IV : Hid ((Tryd.prog.info? 24).map (·.size) = some (digC d).length) := by rw [digC, List.length_map, hd32]; exact infoD
      have qn : Hid (∀ w : World, (binOp .neq 24 (digV d) (digV d)).run Tryd.prog w = .ok (.bool false) w) := fun w => by
        rw [run_neD w _ Tryd.underlying24 _ _ hd32 hd32, decide_eq_true rfl]
        rfl
      have hI : (k : Int) < (n : Int) := by omega
      unfold digV at qn
      simp only [show ∀ l : List UInt8, l.map bvI = digC l from fun _ => rfl] at qn
      generalize digC d = DV at *
      clear hd hd32 hcell hd' hcell'
      go_upto_region 6 with fail
      refine wp_region_st 9 Nothing [Is (.slice (some ad) n c), Is (.int .i64 k), Is (.pointer (some (ad.add (k * 32)))), Is (.agg DV.toArray), Is (.slice (some ae) n c2), Is (.int .i64 k), Is (.pointer (some (ae.add (k * 32)))), Is (.agg DV.toArray), Is (.bool false)] [] (fun _ => True) (fun _ _ => false) (by kernel_rfl) (by kernel_rfl) (by kernel_rfl) (by kernel_rfl) ⟨Is.stable _, Is.stable _, Is.stable _, Is.stable _, Is.stable _, Is.stable _, Is.stable _, Is.stable _, Is.stable _, trivial⟩ trivial (fun _ _ _ _ h => h) trivial ?_ ?_
      · refine ⟨fun u w' d hf hR k1 k0 kM => ?_, fun u w' d hf hR k1 k0 kM => ?_, fun u w' d hf hR k1 k0 kM => ?_, fun u w' d hf hR k1 k0 kM => ?_, fun u w' d hf hR k1 k0 kM => ?_, fun u w' d hf hR k1 k0 kM => ?_, fun u w' d hf hR k1 k0 kM => ?_, fun u w' d hf hR k1 k0 kM => ?_, fun u w' d hf hR k1 k0 kM => ?_, trivial⟩
        all_goals simp only [List.take_succ_cons, List.take_zero, List.map_cons, List.map_nil, puts, Act.put, List.setIfInBounds_toArray, List.set_cons_zero, List.set_cons_succ, Nat.reduceAdd, Nat.zero_add]
        · clear hR k1 k0 kM
          refine .inl ⟨by kernel_rfl, ?_⟩
          go_simp
          exact ⟨_, rfl, Fr.refl _ _, rfl, trivial⟩
        · clear hR k1 k0 kM
          refine .inl ⟨by kernel_rfl, ?_⟩
          go_simp
          exact ⟨_, rfl, Fr.refl _ _, rfl, trivial⟩
        · have h0 : u 0 = _ := hR 0 (by kernel_rfl)
          have h1 : u 1 = _ := hR 1 (by kernel_rfl)
          clear hR k1 k0 kM
          simp only [h0, h1]
          refine .inl ⟨by kernel_rfl, ?_⟩
          go_simp
          exact ⟨_, rfl, Fr.refl _ _, rfl, trivial⟩
        · have h2 : u 2 = _ := hR 2 (by kernel_rfl)
          clear hR k1 k0 kM
          simp only [h2]
          refine .inl ⟨by kernel_rfl, ?_⟩
          exact wp_load_add _ _ rfl (ad.add (k * 32)) rfl DV _ (fun j v hv => hf.cellSome (HCA.out j v hv) (fun x => x)) Tryd.underlying24 rfl IV.out ⟨_, rfl, Fr.refl _ _, rfl, trivial⟩
        · clear hR k1 k0 kM
          refine .inl ⟨by kernel_rfl, ?_⟩
          go_simp
          exact ⟨_, rfl, Fr.refl _ _, rfl, trivial⟩
        · clear hR k1 k0 kM
          refine .inl ⟨by kernel_rfl, ?_⟩
          go_simp
          exact ⟨_, rfl, Fr.refl _ _, rfl, trivial⟩
        · have h4 : u 4 = _ := hR 4 (by kernel_rfl)
          have h5 : u 5 = _ := hR 5 (by kernel_rfl)
          clear hR k1 k0 kM
          simp only [h4, h5]
          refine .inl ⟨by kernel_rfl, ?_⟩
          go_simp
          exact ⟨_, rfl, Fr.refl _ _, rfl, trivial⟩
        · have h6 : u 6 = _ := hR 6 (by kernel_rfl)
          clear hR k1 k0 kM
          simp only [h6]
          refine .inl ⟨by kernel_rfl, ?_⟩
          exact wp_load_add _ _ rfl (ae.add (k * 32)) rfl DV _ (fun j v hv => hf.cellSome (HCB.out j v hv) (fun x => x)) Tryd.underlying24 rfl IV.out ⟨_, rfl, Fr.refl _ _, rfl, trivial⟩
        · have h3 : u 3 = _ := hR 3 (by kernel_rfl)
          have h7 : u 7 = _ := hR 7 (by kernel_rfl)
          clear hR k1 k0 kM
          simp only [h3, h7]
          refine .inl ⟨by kernel_rfl, ?_⟩
          exact wp_binAgg _ _ _ _ _ rfl _ _ rfl rfl Tryd.eqGuardType24 _ (qn.out _) ⟨_, rfl, Fr.refl _ _, rfl, trivial⟩
      · intro u w' hf hR kM
        have h8 : u 8 = _ := hR 8 (by omega)
        clear hR kM
        simp only [List.take_succ_cons, List.take_zero, List.map_cons, List.map_nil, puts, Act.put, List.setIfInBounds_toArray, List.set_cons_zero, List.set_cons_succ, List.drop_succ_cons, List.drop_zero, Nat.reduceAdd, Nat.zero_add, h8]
        have FB := Lib.hid (HF.out.trans hf)
        clear hf HCA HCB
        go_wp2
        go_roundw
        case rel => exact ⟨k + 1, by omega, by go_num, FB.out⟩
        case measure => simp [intOf]; omega
    · obtain rfl : k = n := by omega
      go_wp2
      go_ret
      exact ⟨rfl, HF.out⟩

set_option maxRecDepth 100000 in
set_option maxHeartbeats 2000000 in
theorem treeEq_yes (w : World) (p q : Nat) (A B : Option Addr) (n c m c2 : Nat) (mb mb2 : Option Nat) (ds : List (List UInt8)) (C C2 : Nat → Nat → Prop) (hT : TreeC w p A n c mb ds C) (hU : TreeC w q B m c2 mb2 ds C2) (hn : n ≤ 1048576) :
    Calls Tryd.prog 41 #[.pointer (some ⟨p, 0, none⟩), .pointer (some ⟨q, 0, none⟩)] w (Same' w (.bool true)) := by
  have hnm : m = n := by rw [← hT.len, ← hU.len]
  have CE : Hid (∀ w', Fr Nothing w w' → Calls Tryd.prog 69 #[.slice A n c, .slice B m c2] w' (Same' w' (.bool true))) := fun w' hf => by
    have h2 := hU.dig.fr0 hf
    subst hnm
    exact slEqual_yes _ ds A B c c2 _ _ w' (hT.dig.fr0 hf) h2 hn
  have P0 : Hid (w.cell? ⟨p, 0, none⟩ = some (.slice A n c)) := hT.blk.cell 0
  have Q0 : Hid (w.cell? ⟨q, 0, none⟩ = some (.slice B m c2)) := hU.blk.cell 0
  clear hT hU hnm
  go_enter Tryd.func41, Tryd.ntmps41
  go_upto_region 3 with fail
  refine wp_region_st 9 Nothing [Is (.pointer (some ⟨p, 0, none⟩)), Is (.pointer (some ⟨p, 0, none⟩)), Is (.pointer (some ⟨p, 0, none⟩)), Is (.slice A n c), Is (.pointer (some ⟨q, 0, none⟩)), Is (.pointer (some ⟨q, 0, none⟩)), Is (.pointer (some ⟨q, 0, none⟩)), Is (.slice B m c2), Is (.bool true)] [] (fun _ => True) (fun _ _ => false) (by kernel_rfl) (by kernel_rfl) (by kernel_rfl) (by kernel_rfl) ⟨Is.stable _, Is.stable _, Is.stable _, Is.stable _, Is.stable _, Is.stable _, Is.stable _, Is.stable _, Is.stable _, trivial⟩ trivial (fun _ _ _ _ h => h) trivial ?_ ?_
  · refine ⟨fun u w' d hf hR k1 k0 kM => ?_, fun u w' d hf hR k1 k0 kM => ?_, fun u w' d hf hR k1 k0 kM => ?_, fun u w' d hf hR k1 k0 kM => ?_, fun u w' d hf hR k1 k0 kM => ?_, fun u w' d hf hR k1 k0 kM => ?_, fun u w' d hf hR k1 k0 kM => ?_, fun u w' d hf hR k1 k0 kM => ?_, fun u w' d hf hR k1 k0 kM => ?_, trivial⟩
    all_goals simp only [List.take_succ_cons, List.take_zero, List.map_cons, List.map_nil, puts, Act.put, List.setIfInBounds_toArray, List.set_cons_zero, List.set_cons_succ, Nat.reduceAdd, Nat.zero_add]
    · clear hR k1 k0 kM
      refine .inl ⟨by kernel_rfl, ?_⟩
      go_simp
      exact ⟨_, rfl, Fr.refl _ _, rfl, trivial⟩
    · have h0 : u 0 = _ := hR 0 (by kernel_rfl)
      clear hR k1 k0 kM
      simp only [h0]
      refine .inl ⟨by kernel_rfl, ?_⟩
      go_simp
      exact ⟨_, rfl, Fr.refl _ _, rfl, trivial⟩
    · have h1 : u 1 = _ := hR 1 (by kernel_rfl)
      clear hR k1 k0 kM
      simp only [h1]
      refine .inl ⟨by kernel_rfl, ?_⟩
      go_simp
      exact ⟨_, rfl, Fr.refl _ _, rfl, trivial⟩
    · have h2 : u 2 = _ := hR 2 (by kernel_rfl)
      clear hR k1 k0 kM
      simp only [h2]
      refine .inl ⟨by kernel_rfl, ?_⟩
      have hc : w'.cell? ⟨p, 0, none⟩ = some (.slice A n c) := hf.cellSome P0.out (fun x => x)
      go_simp
      exact ⟨_, rfl, Fr.refl _ _, rfl, trivial⟩
    · clear hR k1 k0 kM
      refine .inl ⟨by kernel_rfl, ?_⟩
      go_simp
      exact ⟨_, rfl, Fr.refl _ _, rfl, trivial⟩
    · have h4 : u 4 = _ := hR 4 (by kernel_rfl)
      clear hR k1 k0 kM
      simp only [h4]
      refine .inl ⟨by kernel_rfl, ?_⟩
      go_simp
      exact ⟨_, rfl, Fr.refl _ _, rfl, trivial⟩
    · have h5 : u 5 = _ := hR 5 (by kernel_rfl)
      clear hR k1 k0 kM
      simp only [h5]
      refine .inl ⟨by kernel_rfl, ?_⟩
      go_simp
      exact ⟨_, rfl, Fr.refl _ _, rfl, trivial⟩
    · have h6 : u 6 = _ := hR 6 (by kernel_rfl)
      clear hR k1 k0 kM
      simp only [h6]
      refine .inl ⟨by kernel_rfl, ?_⟩
      have hc : w'.cell? ⟨q, 0, none⟩ = some (.slice B m c2) := hf.cellSome Q0.out (fun x => x)
      go_simp
      exact ⟨_, rfl, Fr.refl _ _, rfl, trivial⟩
    · have h3 : u 3 = _ := hR 3 (by kernel_rfl)
      have h7 : u 7 = _ := hR 7 (by kernel_rfl)
      clear hR k1 k0 kM
      simp only [h3, h7]
      refine .inl ⟨by kernel_rfl, ?_⟩
      go_simp
      refine (CE.out _ hf).mono ?_
      rintro e w4 ⟨rfl, f4⟩
      exact ⟨_, rfl, f4.weak, rfl, trivial⟩
  · intro u w' hf hR kM
    have h8 : u 8 = _ := hR 8 (by omega)
    clear hR kM
    simp only [List.take_succ_cons, List.take_zero, List.map_cons, List.map_nil, puts, Act.put, List.setIfInBounds_toArray, List.set_cons_zero, List.set_cons_succ, List.drop_succ_cons, List.drop_zero, Nat.reduceAdd, Nat.zero_add, h8]
    have FE := Lib.hid hf
    clear hf
    go_wp2
    go_ret
    exact ⟨rfl, FE.out⟩

set_option maxRecDepth 100000 in
set_option maxHeartbeats 2000000 in
theorem treeEq_no (w : World) (p q : Nat) (A B : Option Addr) (n c m c2 : Nat) (mb mb2 : Option Nat) (ds es : List (List UInt8)) (C C2 : Nat → Nat → Prop) (hT : TreeC w p A n c mb ds C) (hU : TreeC w q B m c2 mb2 es C2) (hnm : n ≠ m) :
    Calls Tryd.prog 41 #[.pointer (some ⟨p, 0, none⟩), .pointer (some ⟨q, 0, none⟩)] w (Same' w (.bool false)) := by
  have CE : Hid (∀ w', Calls Tryd.prog 69 #[.slice A n c, .slice B m c2] w' (Same' w' (.bool false))) := fun w' => slEqual_no n m A B c c2 w' hnm
  have P0 : Hid (w.cell? ⟨p, 0, none⟩ = some (.slice A n c)) := hT.blk.cell 0
  have Q0 : Hid (w.cell? ⟨q, 0, none⟩ = some (.slice B m c2)) := hU.blk.cell 0
  clear hT hU hnm
  go_enter Tryd.func41, Tryd.ntmps41
  go_upto_region 3 with fail
  refine wp_region_st 9 Nothing [Is (.pointer (some ⟨p, 0, none⟩)), Is (.pointer (some ⟨p, 0, none⟩)), Is (.pointer (some ⟨p, 0, none⟩)), Is (.slice A n c), Is (.pointer (some ⟨q, 0, none⟩)), Is (.pointer (some ⟨q, 0, none⟩)), Is (.pointer (some ⟨q, 0, none⟩)), Is (.slice B m c2), Is (.bool false)] [] (fun _ => True) (fun _ _ => false) (by kernel_rfl) (by kernel_rfl) (by kernel_rfl) (by kernel_rfl) ⟨Is.stable _, Is.stable _, Is.stable _, Is.stable _, Is.stable _, Is.stable _, Is.stable _, Is.stable _, Is.stable _, trivial⟩ trivial (fun _ _ _ _ h => h) trivial ?_ ?_
  · refine ⟨fun u w' d hf hR k1 k0 kM => ?_, fun u w' d hf hR k1 k0 kM => ?_, fun u w' d hf hR k1 k0 kM => ?_, fun u w' d hf hR k1 k0 kM => ?_, fun u w' d hf hR k1 k0 kM => ?_, fun u w' d hf hR k1 k0 kM => ?_, fun u w' d hf hR k1 k0 kM => ?_, fun u w' d hf hR k1 k0 kM => ?_, fun u w' d hf hR k1 k0 kM => ?_, trivial⟩
    all_goals simp only [List.take_succ_cons, List.take_zero, List.map_cons, List.map_nil, puts, Act.put, List.setIfInBounds_toArray, List.set_cons_zero, List.set_cons_succ, Nat.reduceAdd, Nat.zero_add]
    · clear hR k1 k0 kM
      refine .inl ⟨by kernel_rfl, ?_⟩
      go_simp
      exact ⟨_, rfl, Fr.refl _ _, rfl, trivial⟩
    · have h0 : u 0 = _ := hR 0 (by kernel_rfl)
      clear hR k1 k0 kM
      simp only [h0]
      refine .inl ⟨by kernel_rfl, ?_⟩
      go_simp
      exact ⟨_, rfl, Fr.refl _ _, rfl, trivial⟩
    · have h1 : u 1 = _ := hR 1 (by kernel_rfl)
      clear hR k1 k0 kM
      simp only [h1]
      refine .inl ⟨by kernel_rfl, ?_⟩
      go_simp
      exact ⟨_, rfl, Fr.refl _ _, rfl, trivial⟩
    · have h2 : u 2 = _ := hR 2 (by kernel_rfl)
      clear hR k1 k0 kM
      simp only [h2]
      refine .inl ⟨by kernel_rfl, ?_⟩
      have hc : w'.cell? ⟨p, 0, none⟩ = some (.slice A n c) := hf.cellSome P0.out (fun x => x)
      go_simp
      exact ⟨_, rfl, Fr.refl _ _, rfl, trivial⟩
    · clear hR k1 k0 kM
      refine .inl ⟨by kernel_rfl, ?_⟩
      go_simp
      exact ⟨_, rfl, Fr.refl _ _, rfl, trivial⟩
    · have h4 : u 4 = _ := hR 4 (by kernel_rfl)
      clear hR k1 k0 kM
      simp only [h4]
      refine .inl ⟨by kernel_rfl, ?_⟩
      go_simp
      exact ⟨_, rfl, Fr.refl _ _, rfl, trivial⟩
    · have h5 : u 5 = _ := hR 5 (by kernel_rfl)
      clear hR k1 k0 kM
      simp only [h5]
      refine .inl ⟨by kernel_rfl, ?_⟩
      go_simp
      exact ⟨_, rfl, Fr.refl _ _, rfl, trivial⟩
    · have h6 : u 6 = _ := hR 6 (by kernel_rfl)
      clear hR k1 k0 kM
      simp only [h6]
      refine .inl ⟨by kernel_rfl, ?_⟩
      have hc : w'.cell? ⟨q, 0, none⟩ = some (.slice B m c2) := hf.cellSome Q0.out (fun x => x)
      go_simp
      exact ⟨_, rfl, Fr.refl _ _, rfl, trivial⟩
    · have h3 : u 3 = _ := hR 3 (by kernel_rfl)
      have h7 : u 7 = _ := hR 7 (by kernel_rfl)
      clear hR k1 k0 kM
      simp only [h3, h7]
      refine .inl ⟨by kernel_rfl, ?_⟩
      go_simp
      refine (CE.out _).mono ?_
      rintro e w4 ⟨rfl, f4⟩
      exact ⟨_, rfl, f4.weak, rfl, trivial⟩
  · intro u w' hf hR kM
    have h8 : u 8 = _ := hR 8 (by omega)
    clear hR kM
    simp only [List.take_succ_cons, List.take_zero, List.map_cons, List.map_nil, puts, Act.put, List.setIfInBounds_toArray, List.set_cons_zero, List.set_cons_succ, List.drop_succ_cons, List.drop_zero, Nat.reduceAdd, Nat.zero_add, h8]
    have FE := Lib.hid hf
    clear hf
    go_wp2
    go_ret
    exact ⟨rfl, FE.out⟩
end Go.Proofs.YtkaghbpdnmigmaaDoor
