/- Steps of the proof of LawPipesLoseNothing: contracts of the functions that the law reaches, for every world that holds what each of them asks. -/
import Derived.Test.YtmpokappjogehaaGreatDoorQAD
set_option linter.unusedVariables false
set_option linter.unusedSimpArgs false
namespace Go.Proofs.YtmpokappjogehaaGreatDoor
open Go.RowKit

theorem isNaN_int (a : Int) (w : World) : Calls Tryz.prog 339 #[.int .i64 a] w (SameW w (.bool false)) := by
  go_enter Tryz.func339, Tryz.ntmps339
  go_wp2
  go_ret
  exact ⟨rfl, rfl⟩
def cmpI (a b : Int) : Int := if a < b then -1 else if b < a then 1 else 0
set_option maxRecDepth 100000 in
theorem cmpInt_any (a b : Int) (w : World) : Calls Tryz.prog 325 #[.int .i64 a, .int .i64 b] w (SameW w (.int .i64 (cmpI a b))) := by
  have C1 := Lib.hid (fun w => isNaN_int a w)
  have C2 := Lib.hid (fun w => isNaN_int b w)
  unfold cmpI
  by_cases h1 : a < b
  · rw [if_pos h1]
    have t1 : decide (a < b) = true := decide_eq_true h1
    clear h1
    go_enter Tryz.func325, Tryz.ntmps325
    go_wp2_with fail
    refine (C1.out _).mono ?_
    rintro e w' ⟨rfl, rfl⟩
    go_wp2_with fail
    refine (C2.out _).mono ?_
    rintro e w' ⟨rfl, rfl⟩
    go_wp2
    go_ret
    exact ⟨rfl, rfl⟩
  · rw [if_neg h1]
    have t1 : decide (a < b) = false := decide_eq_false h1
    by_cases h2 : b < a
    · rw [if_pos h2]
      have t2 : decide (b < a) = true := decide_eq_true h2
      clear h1 h2
      go_enter Tryz.func325, Tryz.ntmps325
      go_wp2_with fail
      refine (C1.out _).mono ?_
      rintro e w' ⟨rfl, rfl⟩
      go_wp2_with fail
      refine (C2.out _).mono ?_
      rintro e w' ⟨rfl, rfl⟩
      go_wp2
      go_ret
      exact ⟨rfl, rfl⟩
    · rw [if_neg h2]
      have t2 : decide (b < a) = false := decide_eq_false h2
      go_enter Tryz.func325, Tryz.ntmps325
      go_wp2_with fail
      refine (C1.out _).mono ?_
      rintro e w' ⟨rfl, rfl⟩
      go_wp2_with fail
      refine (C2.out _).mono ?_
      rintro e w' ⟨rfl, rfl⟩
      go_wp2
      go_ret
      exact ⟨rfl, rfl⟩
theorem isNaN_str (a : ByteArray) (w : World) : Calls Tryz.prog 317 #[.string a] w (SameW w (.bool false)) := by
  go_enter Tryz.func317, Tryz.ntmps317
  go_wp2
  go_ret
  exact ⟨rfl, rfl⟩
set_option maxRecDepth 100000 in
theorem cmpStr_empty (w : World) : Calls Tryz.prog 328 #[.string ByteArray.empty, .string ByteArray.empty] w (SameW w (.int .i64 0)) := by
  have C1 := Lib.hid (fun w => isNaN_str ByteArray.empty w)
  go_enter Tryz.func328, Tryz.ntmps328
  go_wp2_with fail
  refine (C1.out _).mono ?_
  rintro e w' ⟨rfl, rfl⟩
  go_wp2_with fail
  refine (C1.out _).mono ?_
  rintro e w' ⟨rfl, rfl⟩
  go_wp2
  go_ret
  exact ⟨rfl, rfl⟩
theorem lineageCompare_same (a : ByteArray) (w : World) : Calls Tryz.prog 326 #[.string a, .string a] w (SameW w (.int .i64 0)) := by
  go_enter Tryz.func326, Tryz.ntmps326
  go_wp2
  go_ret
  exact ⟨rfl, rfl⟩
set_option maxRecDepth 100000 in
theorem cmpOr_zero (g : Nat) (w : World) (h : Blk w g 3 #[.int .i64 0, .int .i64 0, .int .i64 0]) : Calls Tryz.prog 327 #[.slice (some ⟨g, 0, none⟩) 3 3] w (SameW w (.int .i64 0)) := by
  have HB := Lib.hid h
  clear h
  go_enter Tryz.func327, Tryz.ntmps327
  go_wp2
  go_loopw [8] (fun i wr => ∃ k : Nat, k ≤ 3 ∧ i = .int .i64 k ∧ w = wr) (fun i _ => 3 - (intOf i).toNat)
  case atStart => exact ⟨0, by omega, rfl, rfl⟩
  case round =>
    obtain ⟨k, hk, rfl, rfl⟩ := hrel
    by_cases hlt : k < 3
    · have hI : (k : Int) < 3 := by omega
      have hc : w.cell? ⟨g, k, none⟩ = some (.int .i64 0) := by
        rw [HB.out.cell]
        match k, hlt with
        | 0, _ => rfl
        | 1, _ => rfl
        | 2, _ => rfl
      go_wp2
      go_roundw
      case rel => exact ⟨k + 1, by omega, by go_num, trivial⟩
      case measure => simp [intOf]; omega
    · obtain rfl : k = 3 := by omega
      go_wp2
      go_ret
      exact ⟨rfl, rfl⟩

/-! ### The clock's name -/
def clockN : NameV := ⟨15, ByteArray.empty, 0, 0, ByteArray.empty⟩
def clockC : Array Value := #[.int .i64 15, .string ByteArray.empty, .int .i64 0, .int .i64 0, .string ByteArray.empty]
theorem clock_val : clockN.val = .agg clockC := rfl
set_option maxRecDepth 100000 in
set_option maxHeartbeats 1000000 in
theorem compare_clock (w : World) : Calls Tryz.prog 307 #[.agg clockC, .agg clockC] w (Same' w (.int .i64 0)) := by
  have C1 := Lib.hid (fun w => cmpInt_any 15 15 w)
  have C2 := Lib.hid (fun w => lineageCompare_same ByteArray.empty w)
  go_enter Tryz.func307, Tryz.ntmps307
  go_wp2_with (refine wpList_boxBlk rfl 144 (.tmp 0) rfl clockC rfl ?_)
  intro w1 n1
  have N1 := Lib.hid n1
  clear n1
  generalize hga : w.heap.size = ga at *
  have HA0 : Hid (Blk w1 ga 144 clockC) := by have h := N1.out.blk; rw [hga] at h; exact h
  clear hga
  go_wp2_with (refine wpList_boxBlk rfl 144 (.tmp 1) rfl clockC rfl ?_)
  intro w2 n2
  have N2 := Lib.hid n2
  clear n2
  generalize hgb : w1.heap.size = gb at *
  have Hgb : Hid (Blk w2 gb 144 clockC) := by have h := N2.out.blk; rw [hgb] at h; exact h
  clear hgb
  have Hga := Lib.hid (HA0.out.fr N2.out.fr (fun x => x))
  have F2 := Lib.hid (N1.out.fr.trans N2.out.fr)
  have ca0 : w2.cell? ⟨ga, 0, none⟩ = some (.int .i64 15) := Hga.out.cell 0
  have cb0 : w2.cell? ⟨gb, 0, none⟩ = some (.int .i64 15) := Hgb.out.cell 0
  have ca1 : w2.cell? ⟨ga, 1, none⟩ = some (.string ByteArray.empty) := Hga.out.cell 1
  have cb1 : w2.cell? ⟨gb, 1, none⟩ = some (.string ByteArray.empty) := Hgb.out.cell 1
  clear N1 N2 HA0
  go_wp2_with fail
  refine (C1.out _).mono ?_
  rintro e w' ⟨rfl, rfl⟩
  rw [show cmpI 15 15 = 0 from rfl]
  go_wp2_with fail
  refine (C2.out _).mono ?_
  rintro e w' ⟨rfl, rfl⟩
  go_upto_region 7 with fail
  clear ca0 cb0 ca1 cb1
  refine wp_region_st 15 Nothing [Is (.pointer (some ⟨ga, 2, none⟩)), Is (.int .i64 0), Is (.pointer (some ⟨gb, 2, none⟩)), Is (.int .i64 0), Is (.int .i64 0), Is (.pointer (some ⟨ga, 3, none⟩)), Is (.int .i64 0), Is (.pointer (some ⟨gb, 3, none⟩)), Is (.int .i64 0), Is (.int .i64 0), Is (.pointer (some ⟨ga, 4, none⟩)), Is (.string ByteArray.empty), Is (.pointer (some ⟨gb, 4, none⟩)), Is (.string ByteArray.empty), Is (.int .i64 0)] [] (fun _ => True) (fun _ _ => false) (by kernel_rfl) (by kernel_rfl) (by kernel_rfl) (by kernel_rfl) ⟨Is.stable _, Is.stable _, Is.stable _, Is.stable _, Is.stable _, Is.stable _, Is.stable _, Is.stable _, Is.stable _, Is.stable _, Is.stable _, Is.stable _, Is.stable _, Is.stable _, Is.stable _, trivial⟩ trivial (fun _ _ _ _ h => h) trivial ?_ ?_
  · refine ⟨fun u w' d hf hR k1 k0 kM => ?_, fun u w' d hf hR k1 k0 kM => ?_, fun u w' d hf hR k1 k0 kM => ?_, fun u w' d hf hR k1 k0 kM => ?_, fun u w' d hf hR k1 k0 kM => ?_, fun u w' d hf hR k1 k0 kM => ?_, fun u w' d hf hR k1 k0 kM => ?_, fun u w' d hf hR k1 k0 kM => ?_, fun u w' d hf hR k1 k0 kM => ?_, fun u w' d hf hR k1 k0 kM => ?_, fun u w' d hf hR k1 k0 kM => ?_, fun u w' d hf hR k1 k0 kM => ?_, fun u w' d hf hR k1 k0 kM => ?_, fun u w' d hf hR k1 k0 kM => ?_, fun u w' d hf hR k1 k0 kM => ?_, trivial⟩
    all_goals simp only [List.take_succ_cons, List.take_zero, List.map_cons, List.map_nil, puts, Act.put, List.setIfInBounds_toArray, List.set_cons_zero, List.set_cons_succ, Nat.reduceAdd, Nat.zero_add]
    · clear hR k1 k0 kM
      refine .inl ⟨by kernel_rfl, ?_⟩
      go_simp
      exact ⟨_, rfl, Fr.refl _ _, rfl, trivial⟩
    · have h0 : u 0 = _ := hR 0 (by kernel_rfl)
      clear hR k1 k0 kM
      simp only [h0]
      refine .inl ⟨by kernel_rfl, ?_⟩
      have hc : w'.cell? ⟨ga, 2, none⟩ = some (.int .i64 0) := (Hga.out.fr hf (fun x => x)).cell 2
      go_simp
      exact ⟨_, rfl, Fr.refl _ _, rfl, trivial⟩
    · clear hR k1 k0 kM
      refine .inl ⟨by kernel_rfl, ?_⟩
      go_simp
      exact ⟨_, rfl, Fr.refl _ _, rfl, trivial⟩
    · have h2 : u 2 = _ := hR 2 (by kernel_rfl)
      clear hR k1 k0 kM
      simp only [h2]
      refine .inl ⟨by kernel_rfl, ?_⟩
      have hc : w'.cell? ⟨gb, 2, none⟩ = some (.int .i64 0) := (Hgb.out.fr hf (fun x => x)).cell 2
      go_simp
      exact ⟨_, rfl, Fr.refl _ _, rfl, trivial⟩
    · have h1 : u 1 = _ := hR 1 (by kernel_rfl)
      have h3 : u 3 = _ := hR 3 (by kernel_rfl)
      clear hR k1 k0 kM
      simp only [h1, h3]
      refine .inl ⟨by kernel_rfl, ?_⟩
      go_simp
      refine (cmpInt_any 0 0 _).mono ?_
      rintro e w4 ⟨rfl, rfl⟩
      exact ⟨_, rfl, Fr.refl _ _, rfl, trivial⟩
    · clear hR k1 k0 kM
      refine .inl ⟨by kernel_rfl, ?_⟩
      go_simp
      exact ⟨_, rfl, Fr.refl _ _, rfl, trivial⟩
    · have h5 : u 5 = _ := hR 5 (by kernel_rfl)
      clear hR k1 k0 kM
      simp only [h5]
      refine .inl ⟨by kernel_rfl, ?_⟩
      have hc : w'.cell? ⟨ga, 3, none⟩ = some (.int .i64 0) := (Hga.out.fr hf (fun x => x)).cell 3
      go_simp
      exact ⟨_, rfl, Fr.refl _ _, rfl, trivial⟩
    · clear hR k1 k0 kM
      refine .inl ⟨by kernel_rfl, ?_⟩
      go_simp
      exact ⟨_, rfl, Fr.refl _ _, rfl, trivial⟩
    · have h7 : u 7 = _ := hR 7 (by kernel_rfl)
      clear hR k1 k0 kM
      simp only [h7]
      refine .inl ⟨by kernel_rfl, ?_⟩
      have hc : w'.cell? ⟨gb, 3, none⟩ = some (.int .i64 0) := (Hgb.out.fr hf (fun x => x)).cell 3
      go_simp
      exact ⟨_, rfl, Fr.refl _ _, rfl, trivial⟩
    · have h6 : u 6 = _ := hR 6 (by kernel_rfl)
      have h8 : u 8 = _ := hR 8 (by kernel_rfl)
      clear hR k1 k0 kM
      simp only [h6, h8]
      refine .inl ⟨by kernel_rfl, ?_⟩
      go_simp
      refine (cmpInt_any 0 0 _).mono ?_
      rintro e w4 ⟨rfl, rfl⟩
      exact ⟨_, rfl, Fr.refl _ _, rfl, trivial⟩
    · clear hR k1 k0 kM
      refine .inl ⟨by kernel_rfl, ?_⟩
      go_simp
      exact ⟨_, rfl, Fr.refl _ _, rfl, trivial⟩
    · have h10 : u 10 = _ := hR 10 (by kernel_rfl)
      clear hR k1 k0 kM
      simp only [h10]
      refine .inl ⟨by kernel_rfl, ?_⟩
      have hc : w'.cell? ⟨ga, 4, none⟩ = some (.string ByteArray.empty) := (Hga.out.fr hf (fun x => x)).cell 4
      go_simp
      exact ⟨_, rfl, Fr.refl _ _, rfl, trivial⟩
    · clear hR k1 k0 kM
      refine .inl ⟨by kernel_rfl, ?_⟩
      go_simp
      exact ⟨_, rfl, Fr.refl _ _, rfl, trivial⟩
    · have h12 : u 12 = _ := hR 12 (by kernel_rfl)
      clear hR k1 k0 kM
      simp only [h12]
      refine .inl ⟨by kernel_rfl, ?_⟩
      have hc : w'.cell? ⟨gb, 4, none⟩ = some (.string ByteArray.empty) := (Hgb.out.fr hf (fun x => x)).cell 4
      go_simp
      exact ⟨_, rfl, Fr.refl _ _, rfl, trivial⟩
    · have h11 : u 11 = _ := hR 11 (by kernel_rfl)
      have h13 : u 13 = _ := hR 13 (by kernel_rfl)
      clear hR k1 k0 kM
      simp only [h11, h13]
      refine .inl ⟨by kernel_rfl, ?_⟩
      go_simp
      refine (cmpStr_empty _).mono ?_
      rintro e w4 ⟨rfl, rfl⟩
      exact ⟨_, rfl, Fr.refl _ _, rfl, trivial⟩
  · intro u w' hf hR kM
    have k4 : u 4 = _ := hR 4 (by omega)
    have k9 : u 9 = _ := hR 9 (by omega)
    have k14 : u 14 = _ := hR 14 (by omega)
    clear hR kM
    simp only [List.take_succ_cons, List.take_zero, List.map_cons, List.map_nil, puts, Act.put, List.setIfInBounds_toArray, List.set_cons_zero, List.set_cons_succ, List.drop_succ_cons, List.drop_zero, Nat.reduceAdd, Nat.zero_add, k4, k9, k14]
    have F3 := Lib.hid (F2.out.trans hf)
    clear hf k4 k9 k14
    go_wp2_with fail
    have NW := NewBlk.alloc w' 3 #[.int .i64 0, .int .i64 0, .int .i64 0]
    generalize w'.alloc (.cells #[.int .i64 0, .int .i64 0, .int .i64 0] 3) = w5 at *
    have F5 := Lib.hid (F3.out.trans NW.fr)
    have CO := Lib.hid (cmpOr_zero _ w5 NW.blk)
    clear NW
    generalize w'.heap.size = gs at *
    refine CO.out.mono ?_
    rintro e w6 ⟨rfl, rfl⟩
    go_wp2
    go_ret
    exact ⟨rfl, F5.out⟩
end Go.Proofs.YtmpokappjogehaaGreatDoor

namespace Go.Proofs.YtmpokappjogehaaGreatDoor
open Go.RowKit

/-! ### OfClock -/
def nameZ : Value := .agg #[.int .i64 0, .string ByteArray.empty, .int .i64 0, .int .i64 0, .string ByteArray.empty]
theorem zvName (w : World) : (zeroValue 144).run Tryz.prog w = .ok nameZ w := by kernel_rfl
theorem builtClock : Tryz.prog.built 144 [(0, .int .i64 15)] = some clockC := by kernel_rfl
theorem clock_one : clockC.all (·.oneCell') = true := by kernel_rfl
/-! ### find, with, without at the smallest trees -/
set_option maxRecDepth 100000 in
set_option maxHeartbeats 1000000 in
theorem find_none (n : NameV) (w : World) : Calls Tryz.prog 271 #[.pointer none, .agg n.cells.toArray] w (Same' w (.pointer none)) := by
  go_enter Tryz.func271, Tryz.ntmps271
  go_wp2_with (refine wpList_boxBlk rfl 144 (.tmp 1) rfl n.cells.toArray rfl ?_)
  intro w1 n1
  have F1 := Lib.hid n1.fr
  have NB0 := Lib.hid n1.blk
  clear n1
  generalize w.heap.size = gb at *
  have NB : Hid (Blk w1 gb 144 n.cells.toArray) := NB0.out
  clear NB0
  go_wp2
  refine wp_loop_rounds 1 ?_
  rw [rounds_succ]
  go_wp2
  go_ret
  exact ⟨rfl, F1.out⟩

set_option maxRecDepth 100000 in
set_option maxHeartbeats 1000000 in
theorem find_hit (n nm : NameV) (v : ByteArray) (l r : Tr) (g : Nat) (w : World) (hN : NodH w (some ⟨g, 0, none⟩) (.node l nm v r))
    (hC : ∀ w', Fr Nothing w w' → Calls Tryz.prog 307 #[.agg n.cells.toArray, .agg nm.cells.toArray] w' (Same' w' (.int .i64 0))) :
    Calls Tryz.prog 271 #[.pointer (some ⟨g, 0, none⟩), .agg n.cells.toArray] w (Same' w (.pointer (some ⟨g, 0, none⟩))) := by
  have CC := Lib.hid hC
  have HM0 := Lib.hid hN.mid
  clear hC hN
  go_enter Tryz.func271, Tryz.ntmps271
  go_wp2_with (refine wpList_boxBlk rfl 144 (.tmp 1) rfl n.cells.toArray rfl ?_)
  intro w1 n1
  have F1 := Lib.hid n1.fr
  have NB0 := Lib.hid n1.blk
  clear n1
  generalize w.heap.size = gb at *
  have NB : Hid (Blk w1 gb 144 n.cells.toArray) := NB0.out
  clear NB0
  have HM := Lib.hid (HM0.out.fr0 F1.out)
  go_wp2
  refine wp_loop_rounds 1 ?_
  rw [rounds_succ]
  go_upto_region 2 with fail
  refine wp_region_st 7 Nothing [Is (.agg n.cells.toArray), Is (.pointer (some ⟨g, 0, none⟩)), Is (.pointer (some ⟨g, 0, none⟩)), Is (.pointer (some ⟨g, 2, none⟩)), Is (.agg nm.cells.toArray), Is (.int .i64 0), Is (.int .i64 0)] [] (fun _ => True) (fun _ _ => false) (by kernel_rfl) (by kernel_rfl) (by kernel_rfl) (by kernel_rfl) ⟨Is.stable _, Is.stable _, Is.stable _, Is.stable _, Is.stable _, Is.stable _, Is.stable _, trivial⟩ trivial (fun _ _ _ _ h => h) trivial ?_ ?_
  · refine ⟨fun u w' d hf hR k1 k0 kM => ?_, fun u w' d hf hR k1 k0 kM => ?_, fun u w' d hf hR k1 k0 kM => ?_, fun u w' d hf hR k1 k0 kM => ?_, fun u w' d hf hR k1 k0 kM => ?_, fun u w' d hf hR k1 k0 kM => ?_, fun u w' d hf hR k1 k0 kM => ?_, trivial⟩
    all_goals simp only [List.take_succ_cons, List.take_zero, List.map_cons, List.map_nil, puts, Act.put, List.setIfInBounds_toArray, List.set_cons_zero, List.set_cons_succ, Nat.reduceAdd, Nat.zero_add]
    · clear hR k1 k0 kM
      refine .inl ⟨by kernel_rfl, ?_⟩
      exact wp_load_add _ _ rfl ⟨gb, 0, none⟩ rfl n.cells _ (fun j x hx => by rw [Addr.add_mid, Nat.zero_add]; exact (NB.out.fr hf (fun x => x)).cell j |>.trans (by rw [List.getElem?_toArray]; exact hx)) Tryz.underlying144 rfl infoName ⟨_, rfl, Fr.refl _ _, rfl, trivial⟩
    · clear hR k1 k0 kM
      refine .inl ⟨by kernel_rfl, ?_⟩
      go_simp
      exact ⟨_, rfl, Fr.refl _ _, rfl, trivial⟩
    · have h1 : u 1 = _ := hR 1 (by kernel_rfl)
      clear hR k1 k0 kM
      simp only [h1]
      refine .inl ⟨by kernel_rfl, ?_⟩
      go_simp
      exact ⟨_, rfl, Fr.refl _ _, rfl, trivial⟩
    · have h2 : u 2 = _ := hR 2 (by kernel_rfl)
      clear hR k1 k0 kM
      simp only [h2]
      refine .inl ⟨by kernel_rfl, ?_⟩
      go_simp
      exact ⟨_, rfl, Fr.refl _ _, rfl, trivial⟩
    · have h3 : u 3 = _ := hR 3 (by kernel_rfl)
      clear hR k1 k0 kM
      simp only [h3]
      refine .inl ⟨by kernel_rfl, ?_⟩
      exact wp_load_add _ _ rfl ⟨g, 2, none⟩ rfl nm.cells _ (fun j x hx => by rw [Addr.add_mid]; exact hf.cellSome (HM.out.name j x hx) (fun x => x)) Tryz.underlying144 rfl infoName ⟨_, rfl, Fr.refl _ _, rfl, trivial⟩
    · have h0 : u 0 = _ := hR 0 (by kernel_rfl)
      have h4 : u 4 = _ := hR 4 (by kernel_rfl)
      clear hR k1 k0 kM
      simp only [h0, h4]
      refine .inl ⟨by kernel_rfl, ?_⟩
      go_simp
      refine (CC.out _ (F1.out.trans hf)).mono ?_
      rintro e w4 ⟨rfl, f4⟩
      exact ⟨_, rfl, f4.weak, rfl, trivial⟩
    · have h5 : u 5 = _ := hR 5 (by kernel_rfl)
      clear hR k1 k0 kM
      simp only [h5]
      refine .inl ⟨by kernel_rfl, ?_⟩
      go_simp
      exact ⟨_, rfl, Fr.refl _ _, rfl, trivial⟩
  · intro u w' hf hR kM
    have k6 : u 6 = _ := hR 6 (by omega)
    clear hR kM
    simp only [List.take_succ_cons, List.take_zero, List.map_cons, List.map_nil, puts, Act.put, List.setIfInBounds_toArray, List.set_cons_zero, List.set_cons_succ, List.drop_succ_cons, List.drop_zero, Nat.reduceAdd, Nat.zero_add, k6]
    have F2 := Lib.hid (F1.out.trans hf)
    clear hf k6
    go_wp2
    go_ret
    exact ⟨rfl, F2.out⟩

end Go.Proofs.YtmpokappjogehaaGreatDoor

namespace Go.Proofs.YtmpokappjogehaaGreatDoor
open Go.RowKit

def str (l : List UInt8) : ByteArray := ⟨l.toArray⟩
structure Usa where
  word : ByteArray
  owner : Bool
  number : Bool
  index : Bool
  text : Bool
  most : Int
def Usa.cells (u : Usa) : List Value := [.string u.word, .bool u.owner, .bool u.number, .bool u.index, .bool u.text, .int .i64 u.most]
/-- The table of the kinds. -/
def usaL : List Usa := [
  ⟨str [], false, false, false, false, 0⟩,
  ⟨str [112, 114, 111, 99, 101, 115, 115], true, false, false, false, 0⟩,
  ⟨str [114, 101, 103, 105, 115, 116, 101, 114, 115], true, false, false, false, 0⟩,
  ⟨str [112, 97, 103, 101], true, false, true, false, 63⟩,
  ⟨str [116, 97, 98, 108, 101], true, false, false, false, 0⟩,
  ⟨str [99, 111, 117, 110, 116, 101, 114], true, false, false, false, 0⟩,
  ⟨str [112, 101, 110, 100, 105, 110, 103], true, false, false, false, 0⟩,
  ⟨str [110, 111, 100, 101], true, true, false, false, 0⟩,
  ⟨str [98, 108, 111, 99, 107], true, true, true, false, 63⟩,
  ⟨str [101, 110, 116, 114, 121], true, true, false, true, 0⟩,
  ⟨str [108, 105, 115, 116, 105, 110, 103], true, true, false, false, 0⟩,
  ⟨str [112, 105, 112, 101], true, true, false, false, 0⟩,
  ⟨str [108, 111, 99, 107], true, true, false, false, 0⟩,
  ⟨str [116, 101, 114, 109, 105, 110, 97, 108], false, true, false, false, 0⟩,
  ⟨str [97, 99, 99, 111, 117, 110, 116], false, false, false, true, 0⟩,
  ⟨str [99, 108, 111, 99, 107], false, false, false, false, 0⟩,
  ⟨str [112, 111, 114, 116], false, true, false, false, 0⟩,
  ⟨str [98, 111, 120], false, false, false, true, 0⟩,
  ⟨str [111, 117, 116], true, true, true, false, 1073741824⟩,
  ⟨str [115, 104, 101, 108, 108], true, false, false, false, 0⟩,
  ⟨str [101, 112, 111, 99, 104], false, false, false, false, 0⟩]
/-- The table's row of the clock. -/
def usaClock : List Value := [.string (str [99, 108, 111, 99, 107]), .bool false, .bool false, .bool false, .bool false, .int .i64 0]
structure UsaT (w : World) : Prop where
  row : ∀ k u, usaL[k]? = some u → ∀ j v, u.cells[j]? = some v → w.cell? ⟨0, k * 6 + j, none⟩ = some v
theorem UsaT.fr0 {w w' : World} (h : UsaT w) (hf : Fr Nothing w w') : UsaT w' := ⟨fun k u hk j v hv => hf.cellSome (h.row k u hk j v hv) (fun x => x)⟩
theorem UsaT.clock {w : World} (h : UsaT w) : ∀ j v, usaClock[j]? = some v → w.cell? ⟨0, 90 + j, none⟩ = some v := fun j v hv => h.row 15 _ rfl j v hv
theorem isKind_clock (w : World) : Calls Tryz.prog 267 #[.int .i64 15] w (SameW w (.bool true)) := by
  go_enter Tryz.func267, Tryz.ntmps267
  go_wp2
  go_ret
  exact ⟨rfl, rfl⟩
def usaZ : Value := .agg #[.string ByteArray.empty, .bool false, .bool false, .bool false, .bool false, .int .i64 0]
theorem zvUsage (w : World) : (zeroValue 306).run Tryz.prog w = .ok usaZ w := by kernel_rfl
theorem infoUsage : (Tryz.prog.info? 306).map (·.size) = some 6 := by kernel_rfl
theorem usa_one : usaClock.toArray.all (·.oneCell') = true := by kernel_rfl

set_option maxRecDepth 100000 in
set_option maxHeartbeats 1000000 in
theorem Check_clock (w : World) (hU : UsaT w) : Calls Tryz.prog 186 #[.agg clockC] w (Same' w (.int .i64 0)) := by
  have HU := Lib.hid hU
  have CK := Lib.hid isKind_clock
  have O := Lib.hid usa_one
  clear hU
  go_enter Tryz.func186, Tryz.ntmps186
  go_wp2_with (refine wpList_boxBlk rfl 144 (.tmp 0) rfl clockC rfl ?_)
  intro w1 n1
  have F1 := Lib.hid n1.fr
  have NB0 := Lib.hid n1.blk
  clear n1
  generalize w.heap.size = gb at *
  have NB : Hid (Blk w1 gb 144 clockC) := NB0.out
  clear NB0
  have c0 : w1.cell? ⟨gb, 0, none⟩ = some (.int .i64 15) := NB.out.cell 0
  go_wp2_with fail
  refine (CK.out _).mono ?_
  rintro e w' ⟨rfl, rfl⟩
  go_wp2_with (refine wpList_load_add rfl 306 (.tmp 10) rfl ⟨0, 90, none⟩ rfl usaClock _ ?hcc Tryz.underlying306 rfl infoUsage (Held.go ?hold))
  case hcc => exact fun j x hx => by rw [Addr.add_mid]; exact F1.out.cellSome (HU.out.clock j x hx) (fun x => x)
  unfold Held
  go_wp2_with (refine wpList_allocBlk rfl 306 rfl usaZ zvUsage #[.string ByteArray.empty, .bool false, .bool false, .bool false, .bool false, .int .i64 0] rfl ?_)
  intro w2 n2
  have N2 := Lib.hid n2
  clear n2
  generalize hgu : w1.heap.size = gu at *
  have HGU := Lib.hid hgu
  clear hgu
  have U2 : Hid (Blk w2 gu 306 #[.string ByteArray.empty, .bool false, .bool false, .bool false, .bool false, .int .i64 0]) := by have h := N2.out.blk; rw [HGU.out] at h; exact h
  go_wp2_with (refine wpList_storeBlk rfl 306 (.tmp 3) _ rfl gu usaClock.toArray rfl rfl _ _ U2.out infoUsage rfl O.out ?_)
  intro w3 b3 f3
  have B3 := Lib.hid b3
  have F13 : Hid (Fr Nothing w1 w3) := N2.out.fr.then_ f3 (fun i hi e => by have e' : i = gu := e; have := HGU.out; omega)
  have F3 := Lib.hid (F1.out.trans F13.out)
  have u1 : w3.cell? ⟨gu, 1, none⟩ = some (.bool false) := B3.out.cell 1
  have u2 : w3.cell? ⟨gu, 2, none⟩ = some (.bool false) := B3.out.cell 2
  have u3 : w3.cell? ⟨gu, 3, none⟩ = some (.bool false) := B3.out.cell 3
  have u4 : w3.cell? ⟨gu, 4, none⟩ = some (.bool false) := B3.out.cell 4
  have u5 : w3.cell? ⟨gu, 5, none⟩ = some (.int .i64 0) := B3.out.cell 5
  have NB3 := Lib.hid (NB.out.fr F13.out (fun x => x))
  have n1 : w3.cell? ⟨gb, 1, none⟩ = some (.string ByteArray.empty) := NB3.out.cell 1
  have n2 : w3.cell? ⟨gb, 2, none⟩ = some (.int .i64 0) := NB3.out.cell 2
  have n3 : w3.cell? ⟨gb, 3, none⟩ = some (.int .i64 0) := NB3.out.cell 3
  have n4 : w3.cell? ⟨gb, 4, none⟩ = some (.string ByteArray.empty) := NB3.out.cell 4
  clear b3 f3 N2 HGU U2 F13 c0 NB F1
  go_wp2
  go_ret
  exact ⟨rfl, F3.out⟩
end Go.Proofs.YtmpokappjogehaaGreatDoor

namespace Go.Proofs.YtmpokappjogehaaGreatDoor
open Go.RowKit

/-- A state in memory. -/
def StH (w : World) (s : Nat) (t : Tr) : Prop := ∃ a, Blk w s 107 #[.pointer a] ∧ NodH w a t
theorem StH.fr0 {w w' : World} {s : Nat} {t : Tr} (h : StH w s t) (hf : Fr Nothing w w') : StH w' s t := by
  obtain ⟨a, h1, h2⟩ := h
  exact ⟨a, h1.fr hf (fun x => x), h2.fr0 hf⟩
theorem wp_builtA {P : Program} {o : Oper} {a : Act} {w : World} {K : Act → World → Prop} {Q : Exit → Act → World → Prop} (t : TypeId) (parts : Array (Nat × Operand)) (ho : o.op = .build t parts)
    (cells : Array Value) (vs : List (Nat × Value)) (hv : (parts.map fun (i, x) => (i, a.eval x)).toList = vs) (hf : P.built t vs = some cells) (h : K (a.put o.dst (.agg cells)) w) : o.wp P a w K Q := by
  subst hv
  exact wp_build t parts ho (by rw [hf]; rfl) (by rw [hf]; exact h)
theorem builtState0 : Tryz.prog.built 107 [] = some #[.pointer none] := by kernel_rfl
set_option maxRecDepth 100000 in
theorem New_any (w : World) : Calls Tryz.prog 13 #[] w (fun e w' => ∃ s, e = .returned (.pointer (some ⟨s, 0, none⟩)) ∧ StH w' s .leaf ∧ Fr Nothing w w') := by
  go_enter Tryz.func13, Tryz.ntmps13
  go_wp2_with (refine wpList_boxBlk rfl 107 (.tmp 1) rfl #[.pointer none] rfl ?_)
  intro w1 n1
  have N1 := Lib.hid n1
  clear n1
  go_wp2
  go_ret
  exact ⟨_, rfl, ⟨none, N1.out.blk, rfl⟩, N1.out.fr⟩

theorem clockC_eq : clockC = clockN.cells.toArray := rfl
/-- A node as With makes it. -/
def node0 (v : ByteArray) : Array Value := ([Value.pointer none, Value.pointer none] ++ clockN.cells ++ [Value.string v, Value.int .i64 0, Value.int .i64 0, Value.int .i64 0]).toArray
set_option maxRecDepth 100000 in
theorem built_node0 (v : ByteArray) : Tryz.prog.built 315 [(2, .agg clockC), (3, .string v)] = some (node0 v) := by kernel_rfl

set_option maxRecDepth 100000 in
set_option maxHeartbeats 1000000 in
theorem Get_hit (v : ByteArray) (l r : Tr) (s : Nat) (w : World) (hS : StH w s (.node l clockN v r)) :
    Calls Tryz.prog 199 #[.pointer (some ⟨s, 0, none⟩), .agg clockC] w (Same' w (.tuple #[.string v, .bool true])) := by
  obtain ⟨a, hb, hn⟩ := hS
  have hn' := hn
  obtain ⟨g, la, ra, rfl, _, _, _⟩ := hn'
  have CF : Hid (∀ w', Fr Nothing w w' → Calls Tryz.prog 271 #[.pointer (some ⟨g, 0, none⟩), .agg clockC] w' (Same' w' (.pointer (some ⟨g, 0, none⟩)))) := fun w' hf => find_hit clockN clockN v l r g w' (hn.fr0 hf) (fun w'' _ => compare_clock w'')
  have M0 := Lib.hid hn.mid.val
  have R00 : Hid (w.cell? ⟨s, 0, none⟩ = some (.pointer (some ⟨g, 0, none⟩))) := hb.cell 0
  clear hb hn
  go_enter Tryz.func199, Tryz.ntmps199
  go_wp2_with (refine wpList_boxBlk rfl 144 (.tmp 1) rfl clockC rfl ?_)
  intro w1 n1
  have F1 := Lib.hid n1.fr
  have NB0 := Lib.hid n1.blk
  clear n1
  generalize w.heap.size = gb at *
  have NB : Hid (Blk w1 gb 144 clockC) := NB0.out
  clear NB0
  have R0 : Hid (w1.cell? ⟨s, 0, none⟩ = some (.pointer (some ⟨g, 0, none⟩))) := F1.out.cellSome R00.out (fun x => x)
  go_upto_region 3 with fail
  refine wp_region_st 7 Nothing [Is (.pointer (some ⟨s, 0, none⟩)), Is (.pointer (some ⟨s, 0, none⟩)), Is (.pointer (some ⟨s, 0, none⟩)), Is (.pointer (some ⟨g, 0, none⟩)), Is (.agg clockC), Is (.pointer (some ⟨g, 0, none⟩)), Is (.pointer (some ⟨g, 0, none⟩))] [] (fun _ => True) (fun _ _ => false) (by kernel_rfl) (by kernel_rfl) (by kernel_rfl) (by kernel_rfl) ⟨Is.stable _, Is.stable _, Is.stable _, Is.stable _, Is.stable _, Is.stable _, Is.stable _, trivial⟩ trivial (fun _ _ _ _ h => h) trivial ?_ ?_
  · refine ⟨fun u w' d hf hR k1 k0 kM => ?_, fun u w' d hf hR k1 k0 kM => ?_, fun u w' d hf hR k1 k0 kM => ?_, fun u w' d hf hR k1 k0 kM => ?_, fun u w' d hf hR k1 k0 kM => ?_, fun u w' d hf hR k1 k0 kM => ?_, fun u w' d hf hR k1 k0 kM => ?_, trivial⟩
    all_goals simp only [List.take_succ_cons, List.take_zero, List.map_cons, List.map_nil, puts, Act.put, List.setIfInBounds_toArray, List.set_cons_zero, List.set_cons_succ, Nat.reduceAdd, Nat.zero_add]
    · clear hR k1 k0 kM
      refine .inl ⟨by kernel_rfl, ?_⟩
      go_simp
      exact ⟨_, rfl, Fr.refl _ _, rfl, trivial⟩
    · have h0 : u 0 = _ := hR 0 (by kernel_rfl)
      clear hR k1 k0 kM
      simp only [h0]
      refine .inl ⟨by kernel_rfl, ?_⟩
      go_simp
      exact ⟨_, rfl, Fr.refl _ _, rfl, trivial⟩
    · have h1 : u 1 = _ := hR 1 (by kernel_rfl)
      clear hR k1 k0 kM
      simp only [h1]
      refine .inl ⟨by kernel_rfl, ?_⟩
      go_simp
      exact ⟨_, rfl, Fr.refl _ _, rfl, trivial⟩
    · have h2 : u 2 = _ := hR 2 (by kernel_rfl)
      clear hR k1 k0 kM
      simp only [h2]
      refine .inl ⟨by kernel_rfl, ?_⟩
      have hc : w'.cell? ⟨s, 0, none⟩ = some (.pointer (some ⟨g, 0, none⟩)) := hf.cellSome R0.out (fun x => x)
      go_simp
      exact ⟨_, rfl, Fr.refl _ _, rfl, trivial⟩
    · clear hR k1 k0 kM
      refine .inl ⟨by kernel_rfl, ?_⟩
      exact wp_load_add _ _ rfl ⟨gb, 0, none⟩ rfl clockN.cells _ (fun j x hx => by rw [Addr.add_mid, Nat.zero_add]; exact (NB.out.fr hf (fun x => x)).cell j |>.trans (by rw [clockC_eq, List.getElem?_toArray]; exact hx)) Tryz.underlying144 rfl infoName ⟨_, rfl, Fr.refl _ _, rfl, trivial⟩
    · have h3 : u 3 = _ := hR 3 (by kernel_rfl)
      have h4 : u 4 = _ := hR 4 (by kernel_rfl)
      clear hR k1 k0 kM
      simp only [h3, h4]
      refine .inl ⟨by kernel_rfl, ?_⟩
      go_simp
      refine (CF.out _ (F1.out.trans hf)).mono ?_
      rintro e w4 ⟨rfl, f4⟩
      exact ⟨_, rfl, f4.weak, rfl, trivial⟩
    · have h5 : u 5 = _ := hR 5 (by kernel_rfl)
      clear hR k1 k0 kM
      simp only [h5]
      refine .inl ⟨by kernel_rfl, ?_⟩
      go_simp
      exact ⟨_, rfl, Fr.refl _ _, rfl, trivial⟩
  · intro u w' hf hR kM
    have k6 : u 6 = _ := hR 6 (by omega)
    clear hR kM
    simp only [List.take_succ_cons, List.take_zero, List.map_cons, List.map_nil, puts, Act.put, List.setIfInBounds_toArray, List.set_cons_zero, List.set_cons_succ, List.drop_succ_cons, List.drop_zero, Nat.reduceAdd, Nat.zero_add, k6]
    have F2 := Lib.hid (F1.out.trans hf)
    have cv : w'.cell? ⟨g, 7, none⟩ = some (.string v) := F2.out.cellSome M0.out (fun x => x)
    clear hf k6
    go_wp2
    go_ret2
    exact ⟨rfl, F2.out⟩

set_option maxRecDepth 100000 in
set_option maxHeartbeats 1000000 in
theorem Get_none (s : Nat) (w : World) (hS : StH w s .leaf) :
    Calls Tryz.prog 199 #[.pointer (some ⟨s, 0, none⟩), .agg clockC] w (Same' w (.tuple #[.string ByteArray.empty, .bool false])) := by
  obtain ⟨a, hb, hn⟩ := hS
  obtain rfl : a = none := hn
  have CF : Hid (∀ w', Fr Nothing w w' → Calls Tryz.prog 271 #[.pointer none, .agg clockC] w' (Same' w' (.pointer none))) := fun w' _ => find_none clockN w'
  have R00 : Hid (w.cell? ⟨s, 0, none⟩ = some (.pointer none)) := hb.cell 0
  clear hb
  go_enter Tryz.func199, Tryz.ntmps199
  go_wp2_with (refine wpList_boxBlk rfl 144 (.tmp 1) rfl clockC rfl ?_)
  intro w1 n1
  have F1 := Lib.hid n1.fr
  have NB0 := Lib.hid n1.blk
  clear n1
  generalize w.heap.size = gb at *
  have NB : Hid (Blk w1 gb 144 clockC) := NB0.out
  clear NB0
  have R0 : Hid (w1.cell? ⟨s, 0, none⟩ = some (.pointer none)) := F1.out.cellSome R00.out (fun x => x)
  go_upto_region 3 with fail
  refine wp_region_st 7 Nothing [Is (.pointer (some ⟨s, 0, none⟩)), Is (.pointer (some ⟨s, 0, none⟩)), Is (.pointer (some ⟨s, 0, none⟩)), Is (.pointer none), Is (.agg clockC), Is (.pointer none), Is (.pointer none)] [] (fun _ => True) (fun _ _ => false) (by kernel_rfl) (by kernel_rfl) (by kernel_rfl) (by kernel_rfl) ⟨Is.stable _, Is.stable _, Is.stable _, Is.stable _, Is.stable _, Is.stable _, Is.stable _, trivial⟩ trivial (fun _ _ _ _ h => h) trivial ?_ ?_
  · refine ⟨fun u w' d hf hR k1 k0 kM => ?_, fun u w' d hf hR k1 k0 kM => ?_, fun u w' d hf hR k1 k0 kM => ?_, fun u w' d hf hR k1 k0 kM => ?_, fun u w' d hf hR k1 k0 kM => ?_, fun u w' d hf hR k1 k0 kM => ?_, fun u w' d hf hR k1 k0 kM => ?_, trivial⟩
    all_goals simp only [List.take_succ_cons, List.take_zero, List.map_cons, List.map_nil, puts, Act.put, List.setIfInBounds_toArray, List.set_cons_zero, List.set_cons_succ, Nat.reduceAdd, Nat.zero_add]
    · clear hR k1 k0 kM
      refine .inl ⟨by kernel_rfl, ?_⟩
      go_simp
      exact ⟨_, rfl, Fr.refl _ _, rfl, trivial⟩
    · have h0 : u 0 = _ := hR 0 (by kernel_rfl)
      clear hR k1 k0 kM
      simp only [h0]
      refine .inl ⟨by kernel_rfl, ?_⟩
      go_simp
      exact ⟨_, rfl, Fr.refl _ _, rfl, trivial⟩
    · have h1 : u 1 = _ := hR 1 (by kernel_rfl)
      clear hR k1 k0 kM
      simp only [h1]
      refine .inl ⟨by kernel_rfl, ?_⟩
      go_simp
      exact ⟨_, rfl, Fr.refl _ _, rfl, trivial⟩
    · have h2 : u 2 = _ := hR 2 (by kernel_rfl)
      clear hR k1 k0 kM
      simp only [h2]
      refine .inl ⟨by kernel_rfl, ?_⟩
      have hc : w'.cell? ⟨s, 0, none⟩ = some (.pointer none) := hf.cellSome R0.out (fun x => x)
      go_simp
      exact ⟨_, rfl, Fr.refl _ _, rfl, trivial⟩
    · clear hR k1 k0 kM
      refine .inl ⟨by kernel_rfl, ?_⟩
      exact wp_load_add _ _ rfl ⟨gb, 0, none⟩ rfl clockN.cells _ (fun j x hx => by rw [Addr.add_mid, Nat.zero_add]; exact (NB.out.fr hf (fun x => x)).cell j |>.trans (by rw [clockC_eq, List.getElem?_toArray]; exact hx)) Tryz.underlying144 rfl infoName ⟨_, rfl, Fr.refl _ _, rfl, trivial⟩
    · have h3 : u 3 = _ := hR 3 (by kernel_rfl)
      have h4 : u 4 = _ := hR 4 (by kernel_rfl)
      clear hR k1 k0 kM
      simp only [h3, h4]
      refine .inl ⟨by kernel_rfl, ?_⟩
      go_simp
      refine (CF.out _ (F1.out.trans hf)).mono ?_
      rintro e w4 ⟨rfl, f4⟩
      exact ⟨_, rfl, f4.weak, rfl, trivial⟩
    · have h5 : u 5 = _ := hR 5 (by kernel_rfl)
      clear hR k1 k0 kM
      simp only [h5]
      refine .inl ⟨by kernel_rfl, ?_⟩
      go_simp
      exact ⟨_, rfl, Fr.refl _ _, rfl, trivial⟩
  · intro u w' hf hR kM
    have k6 : u 6 = _ := hR 6 (by omega)
    clear hR kM
    simp only [List.take_succ_cons, List.take_zero, List.map_cons, List.map_nil, puts, Act.put, List.setIfInBounds_toArray, List.set_cons_zero, List.set_cons_succ, List.drop_succ_cons, List.drop_zero, Nat.reduceAdd, Nat.zero_add, k6]
    have F2 := Lib.hid (F1.out.trans hf)
    clear hf k6
    go_wp2
    go_ret2
    exact ⟨rfl, F2.out⟩

end Go.Proofs.YtmpokappjogehaaGreatDoor

namespace Go.Proofs.YtmpokappjogehaaGreatDoor
open Go.RowKit
def strA : ByteArray := ⟨#[97]⟩
end Go.Proofs.YtmpokappjogehaaGreatDoor

namespace Go.Proofs.YtmpokappjogehaaGreatDoor
open Go.RowKit

theorem wpList_storeOne {P : Program} {ops : Array Oper} {rest : List Oper} {o : Oper} {a : Act} {w : World} {Q : Exit → Act → World → Prop} (hgd : o.guard = none) (ty : TypeId) (x y : Operand) (ho : o.op = .store ty x y)
    (g f : Nat) (v : Value) (hx : a.eval x = .pointer (some ⟨g, f, none⟩)) (hy : a.eval y = v) (h1 : v.oneCell' = true) (hi : (P.info? ty).map (·.size) = some 1)
    (t : TypeId) (cs cs' : Array Value) (hB : Blk w g t cs) (hf : f < cs.size) (hcs : cs.setIfInBounds f v = cs')
    (h : ∀ w', Blk w' g t cs' → Fr (fun k => k = g) w w' → wpList P ops Q rest (a.put o.dst undef) w') : wpList P ops Q (o :: rest) a w := by
  subst hcs
  obtain ⟨ie, hie, hs⟩ : ∃ ie, P.info? ty = some ie ∧ ie.size = 1 := by
    cases he : P.info? ty with
    | none => rw [he] at hi; cases hi
    | some ie => rw [he] at hi; exact ⟨ie, rfl, by simpa using hi⟩
  have hrun := Lib.rl_storeVar_one (P := P) ty ie hie hs ⟨g, f, none⟩ v (cs[f]) h1 w (by rw [hB.cell]; simp [hf]) (hB.frozen _)
  refine wpList_plain hgd fun K hK => ?_
  unfold Oper.wp execOp
  simp only [ho, hx, hy, Instr.storeAt, Instr.sureAddr, Sem.run_bind, Sem.run_pure, Result.andThen_ok, hrun]
  exact hK _ _ (h _ (hB.set_ f v) (Fr.setCell (T := fun k => k = g) (Fr.refl _ w) (fun _ => rfl) v))

theorem wp_storeOne {P : Program} {o : Oper} {a : Act} {w : World} {K : Act → World → Prop} {Q : Exit → Act → World → Prop} (ty : TypeId) (x y : Operand) (ho : o.op = .store ty x y)
    (g f : Nat) (v : Value) (hx : a.eval x = .pointer (some ⟨g, f, none⟩)) (hy : a.eval y = v) (h1 : v.oneCell' = true) (hi : (P.info? ty).map (·.size) = some 1)
    (t : TypeId) (cs cs' : Array Value) (hB : Blk w g t cs) (hf : f < cs.size) (hcs : cs.setIfInBounds f v = cs')
    (h : ∀ w', Blk w' g t cs' → Fr (fun k => k = g) w w' → K (a.put o.dst undef) w') : o.wp P a w K Q := by
  subst hcs
  obtain ⟨ie, hie, hs⟩ : ∃ ie, P.info? ty = some ie ∧ ie.size = 1 := by
    cases he : P.info? ty with
    | none => rw [he] at hi; cases hi
    | some ie => rw [he] at hi; exact ⟨ie, rfl, by simpa using hi⟩
  have hrun := Lib.rl_storeVar_one (P := P) ty ie hie hs ⟨g, f, none⟩ v (cs[f]) h1 w (by rw [hB.cell]; simp [hf]) (hB.frozen _)
  unfold Oper.wp execOp
  simp only [ho, hx, hy, Instr.storeAt, Instr.sureAddr, Sem.run_bind, Sem.run_pure, Result.andThen_ok, hrun]
  exact h _ (hB.set_ f v) (Fr.setCell (T := fun k => k = g) (Fr.refl _ w) (fun _ => rfl) v)
/-- A change, of the reference and of the program: the same seven cells. -/
structure CV where
  nm : NameV
  value : ByteArray
  absent : Bool
def CV.cells (c : CV) : List Value := c.nm.cells ++ [.string c.value, .bool c.absent]
theorem CV.cells_length (c : CV) : c.cells.length = 7 := rfl
def cutS (s : ByteArray) (k : Int) : ByteArray := s.extract 0 (min (s.size : Int) k).toNat
def CV.cut (c : CV) : CV := ⟨⟨c.nm.kind, cutS c.nm.owner 100, c.nm.number, c.nm.index, cutS c.nm.text 100⟩, cutS c.value 200, c.absent⟩
theorem infoCh : (Tryz.prog.info? 238).map (·.size) = some 7 := by kernel_rfl
theorem infoStr : (Tryz.prog.info? 9).map (·.size) = some 1 := by kernel_rfl
theorem CV.one (c : CV) : c.cells.toArray.all (·.oneCell') = true := by
  simp [CV.cells, NameV.cells, Value.oneCell']
theorem NameV.one (n : NameV) : n.cells.toArray.all (·.oneCell') = true := by
  simp [NameV.cells, Value.oneCell']
theorem builtName (n : NameV) : Tryz.prog.built 144 [(0, .int .i64 n.kind), (1, .string n.owner), (2, .int .i64 n.number), (3, .int .i64 n.index), (4, .string n.text)] = some n.cells.toArray := by kernel_rfl

/-! ### Rows of changes -/
theorem flat7 : ∀ (xs : List CV) (k : Nat) (c : CV), xs[k]? = some c → ∀ j x, c.cells[j]? = some x → (xs.flatMap CV.cells)[k * 7 + j]? = some x
  | [], _, _, h, _, _, _ => by simp at h
  | y :: ys, 0, c, h, j, x, hx => by
    simp only [List.getElem?_cons_zero, Option.some.injEq] at h
    subst h
    have hj : j < 7 := (List.getElem?_eq_some_iff.1 hx).1
    rw [List.flatMap_cons, Nat.zero_mul, Nat.zero_add, List.getElem?_append_left hj]
    exact hx
  | y :: ys, k + 1, c, h, j, x, hx => by
    rw [List.flatMap_cons, List.getElem?_append_right (by rw [CV.cells_length]; omega), CV.cells_length, show (k + 1) * 7 + j - 7 = k * 7 + j by omega]
    exact flat7 ys k c (by simpa using h) j x hx
structure CL (w : World) (S : Nat → Prop) (A : Option Addr) (n : Nat) (xs : List CV) : Prop where
  rd : Rd w S 7 A n (xs.flatMap CV.cells)
  len : xs.length = n
theorem CL.fr0 {w w' : World} {S : Nat → Prop} {A : Option Addr} {n : Nat} {xs : List CV} (h : CL w S A n xs) (hf : Fr Nothing w w') : CL w' S A n xs := ⟨h.rd.fr0 hf, h.len⟩
theorem CL.at_ {w : World} {S : Nat → Prop} {A : Option Addr} {n k : Nat} {xs : List CV} (h : CL w S A n xs) (hk : k < n) : ∃ ad c, A = some ad ∧ xs[k]? = some c ∧ ∀ j x, c.cells[j]? = some x → w.cell? ((ad.add (k * 7)).add j) = some x := by
  obtain ⟨ad, e, hb, hc⟩ := h.rd.2 (by omega)
  have hkl : k < xs.length := by rw [h.len]; exact hk
  refine ⟨ad, xs[k], e, List.getElem?_eq_getElem hkl, fun j x hx => ?_⟩
  rw [add_of_add]
  exact hc _ x (flat7 xs k xs[k] (List.getElem?_eq_getElem hkl) j x hx)
end Go.Proofs.YtmpokappjogehaaGreatDoor

namespace Go.Proofs.YtmpokappjogehaaGreatDoor
open Go.RowKit
theorem builtCh (c : CV) : Tryz.prog.built 238 [(0, .agg c.nm.cells.toArray), (1, .string c.value), (2, .bool c.absent)] = some c.cells.toArray := by kernel_rfl
def zeroC : Value := .agg #[.int .i64 0, .string ByteArray.empty, .int .i64 0, .int .i64 0, .string ByteArray.empty, .string ByteArray.empty, .bool false]
theorem zinfoCh : (Tryz.prog.info? 238).map (fun i => (i.zero, i.size, i.bytes)) = some (some zeroC, 7, 80) := by kernel_rfl
/-- Cells laid one after the other into a row. -/
theorem foldl_set : ∀ (l : List Value) (k off : Nat) (b : List Value), off + k + l.length ≤ b.length → (l.zipIdx k).foldl (fun cs x => cs.setIfInBounds (off + x.2) x.1) b.toArray = (b.take (off + k) ++ l ++ b.drop (off + k + l.length)).toArray
  | [], k, off, b, _ => by simp
  | c :: r, k, off, b, h => by
    simp only [List.length_cons] at h
    rw [List.zipIdx_cons, List.foldl_cons, List.setIfInBounds_toArray, foldl_set r (k + 1) off (b.set (off + k) c) (by rw [List.length_set]; omega)]
    congr 1
    have e1 : (b.set (off + k) c).take (off + (k + 1)) = b.take (off + k) ++ [c] := by
      rw [List.take_set, show off + (k + 1) = (off + k) + 1 by omega, List.take_succ_eq_append_getElem (by omega : off + k < b.length), List.set_append_right _ _ (by simp; omega)]
      simp
      rw [show off + k - min (off + k) b.length = 0 by omega]
      rfl
    have e2 : (b.set (off + k) c).drop (off + (k + 1) + r.length) = b.drop (off + k + (c :: r).length) := by
      rw [List.drop_set_of_lt (by omega)]
      congr 1
      simp only [List.length_cons]; omega
    rw [e1, e2]
    simp
theorem fold_arr (cs b : Array Value) (off : Nat) (h : off + cs.size ≤ b.size) : cs.zipIdx.foldl (fun cs (x : Value × Nat) => cs.setIfInBounds (off + x.2) x.1) b = (b.toList.take off ++ cs.toList ++ b.toList.drop (off + cs.size)).toArray := by
  rw [← Array.foldl_toList, Array.toList_zipIdx]
  have := foldl_set cs.toList 0 off b.toList (by simpa using h)
  simpa using this
theorem fill_seven (cs b : Array Value) (hc : cs.size = 7) (hb : b.size = 7) : Instr.fill (fun i => some (i * 7, 7)) b [(0, .agg cs)] = some cs := by
  have hf := fold_arr cs b 0 (by omega)
  simp only [Instr.fill, Value.cells, hc, hb, Nat.zero_mul, Nat.zero_add, ne_eq, not_true_eq_false, decide_false, Bool.false_or, gt_iff_lt, Nat.lt_irrefl, Bool.false_eq_true, if_false]
  simp only [Nat.zero_add, List.take_zero, List.nil_append, hc] at hf
  rw [List.drop_of_length_le (by simp [hb]), List.append_nil] at hf
  rw [hf]
theorem own_types {w : World} {base n m : Nat} {e e' : TypeId} {size size' : Nat} {v v' : Value} {xs ys : List Value} (h : w.ownsRow base e size v n xs) (h' : w.ownsRow base e' size' v' m ys) (hne : e ≠ e') : ∀ k, v.ownBlock = some k → v'.ownBlock ≠ some k := by
  intro k h1 h2
  rcases h.2 with ⟨rfl, _⟩ | ⟨g, cap, cur, rfl, _, hb, _⟩
  · cases h1
  · rcases h'.2 with ⟨rfl, _⟩ | ⟨g', cap', cur', rfl, _, hb', _⟩
    · cases h2
    · simp only [Value.ownBlock, Option.some.injEq] at h1 h2
      subst h1
      subst h2
      rw [hb] at hb'
      cases hb'
      exact hne rfl
theorem own_lt {w : World} {base n k : Nat} {e : TypeId} {size : Nat} {v : Value} {xs : List Value} (h : w.ownsRow base e size v n xs) (hk : v.ownBlock = some k) : k < w.heap.size := by
  rcases h.2 with ⟨rfl, _⟩ | ⟨g, cap, cur, rfl, _, hb, _⟩
  · cases hk
  · simp only [Value.ownBlock, Option.some.injEq] at hk
    subst hk
    exact (Array.getElem?_eq_some_iff.1 hb).1
theorem Grew.move {e : TypeId} {size : Nat} {w w1 w2 : World} {v : Value} {n : Nat} {xs : List Value} {T : Nat → Prop} (h : Grew e size w (.slice none 0 0) w1 v n xs) (hf : Fr T w1 w2) (hT : ∀ k, v.ownBlock = some k → ¬ T k) (h0 : Fr Nothing w w2) : Grew e size w (.slice none 0 0) w2 v n xs :=
  ⟨own_fr h.own hf hT, h0.weak, h.lies⟩

theorem Fr.grown0 {w w' : World} (h : Fr Nothing w w') : w.grownBy w' none := ⟨h.os, h.tape, h.output, h.size, fun k hk _ => h.block k hk (fun x => x)⟩
def TrueNew (w : World) (e : Ending) (w' : World) : Prop := e = .returned (.bool true) ∧ Fr Nothing w w'
end Go.Proofs.YtmpokappjogehaaGreatDoor
