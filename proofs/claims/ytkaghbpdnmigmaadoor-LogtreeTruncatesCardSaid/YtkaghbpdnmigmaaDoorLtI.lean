/- The law's own: a list of digests, copied. -/
import Derived.Test.YtkaghbpdnmigmaaDoorLtH
import Derived.Test.YtkaghbpdnmigmaaDoorGwA
import Derived.Great.BuildSlice
namespace Go.Proofs.YtkaghbpdnmigmaaDoor
open Go.RowKit

/-- A goal at which the walk stops. -/
def Held (p : Prop) : Prop := p
theorem Held.go {p : Prop} (h : Held p) : p := h

theorem infoDp : (Tryd.prog.info? 24).map (fun i => (i.zero, i.size, i.bytes)) = some (some zero32, 32, 32) := by kernel_rfl

/-- Cells laid one after the other into a row. -/
theorem foldl_set : ∀ (l : List Value) (k off : Nat) (b : List Value), off + k + l.length ≤ b.length → (l.zipIdx k).foldl (fun cs x => cs.setIfInBounds (off + x.2) x.1) b.toArray = (b.take (off + k) ++ l ++ b.drop (off + k + l.length)).toArray
  | [], k, off, b, _ => by simp
  | c :: r, k, off, b, h => by
    simp only [List.length_cons] at h
    rw [List.zipIdx_cons, List.foldl_cons, List.setIfInBounds_toArray, foldl_set r (k + 1) off (b.set (off + k) c) (by rw [List.length_set]; omega)]
    congr 1
    have e1 : (b.set (off + k) c).take (off + (k + 1)) = b.take (off + k) ++ [c] := by
      rw [List.take_set, show off + (k + 1) = (off + k) + 1 by omega, List.take_succ_eq_append_getElem (by omega : off + k < b.length), List.set_append_right _ _ (by simp; omega)]
      simp
      rw [show off + k - min (off + k) b.length = 0 by omega]
      rfl
    have e2 : (b.set (off + k) c).drop (off + (k + 1) + r.length) = b.drop (off + k + (c :: r).length) := by
      rw [List.drop_set_of_lt (by omega)]
      congr 1
      simp only [List.length_cons]; omega
    rw [e1, e2]
    simp
theorem fold_arr (cs b : Array Value) (off : Nat) (h : off + cs.size ≤ b.size) : cs.zipIdx.foldl (fun cs (x : Value × Nat) => cs.setIfInBounds (off + x.2) x.1) b = (b.toList.take off ++ cs.toList ++ b.toList.drop (off + cs.size)).toArray := by
  rw [← Array.foldl_toList, Array.toList_zipIdx]
  have := foldl_set cs.toList 0 off b.toList (by simpa using h)
  simpa using this
theorem fill_one (cs b : Array Value) (hc : cs.size = 32) (hb : b.size = 32) : Instr.fill (fun i => some (i * 32, 32)) b [(0, .agg cs)] = some cs := by
  have hf := fold_arr cs b 0 (by omega)
  simp only [Instr.fill, Value.cells, hc, hb, Nat.zero_mul, Nat.zero_add, ne_eq, not_true_eq_false, decide_false, Bool.false_or, gt_iff_lt, Nat.lt_irrefl, Bool.false_eq_true, if_false]
  simp only [Nat.zero_add, List.take_zero, List.nil_append, hc] at hf
  rw [List.drop_of_length_le (by simp [hb]), List.append_nil] at hf
  rw [hf]
def Owned (w : World) (n : Nat) (ds : List (List UInt8)) (e : Ending) (w' : World) : Prop := ∃ v, e = .returned v ∧ Grew 24 32 w (.slice none 0 0) w' v n (ds.flatMap digC)

set_option maxRecDepth 100000 in
set_option maxHeartbeats 1000000 in
theorem own_any (n : Nat) (ds : List (List UInt8)) (A : Option Addr) (c : Nat) (S : Nat → Prop) (w : World) (hD : DigL w S A n ds) (hn : n ≤ 1048576) :
    Calls Tryd.prog 14 #[.slice A n c] w (Owned w n ds) := by
  obtain ⟨i0, hi0, hz0, hz1, hz2⟩ := info_parts infoDp
  have HD := Lib.hid hD
  clear hD
  go_enter Tryd.func14, Tryd.ntmps14
  go_wp2
  go_loopw [3, 4] (fun v i wr => ∃ k : Nat, k ≤ n ∧ i = .int .i64 k ∧ Grew 24 32 w (.slice none 0 0) wr v k ((ds.take k).flatMap digC)) (fun _ i _ => n - (intOf i).toNat)
  case atStart => exact ⟨0, by omega, rfl, Grew.start ⟨rfl, .inl ⟨rfl, rfl⟩⟩⟩
  case round =>
    obtain ⟨k, hk, rfl, hG⟩ := hrel
    have KG := Lib.hid hG
    obtain ⟨A1, m, c1, rfl, H1, H2⟩ := own_slice hG.own
    clear hG
    by_cases hlt : k < n
    · obtain ⟨ad, d, rfl, hb, hd, hd32, hcell⟩ := (HD.out.fr0 KG.out.fr0).at_ hlt
      have hI : (k : Int) < (n : Int) := by omega
      have HC := Lib.hid hcell
      have HI : Hid ((Tryd.prog.info? 23).map (·.size) = some (digC d).length) := by rw [digC, List.length_map, hd32]; exact info32
      have HF : Hid (Instr.fill (fun i => some (i * 32, 32)) ((Array.range (1 * 32)).map (zero32.cells[· % zero32.cells.size]!)) [(0, .agg (digC d).toArray)] = some (digC d).toArray) := fill_one _ _ (by simp [digC, hd32]) (by simp)
      have HL : Hid ((digC d).toArray.size = 1 * 32) := by simp [Hid, digC, hd32]
      have HO : Hid (∀ u ∈ (digC d).toArray.toList, u.oneCell' = true) := by
        intro u hu
        exact oneCell_bvI d u (by simpa [digC] using hu)
      have HT : Hid ((ds.take (k + 1)).flatMap digC = (ds.take k).flatMap digC ++ digC d) := by
        simp only [Hid]
        rw [List.take_add_one, hd, List.flatMap_append]
        simp
      clear hcell hd hd32
      generalize digC d = RV at *
      have g1 : Hid (¬ 1 * i0.size > 2 ^ 24) := by simp only [Hid]; rw [hz1]; omega
      have g2 : Hid (¬ 1 * i0.size = 0) := by simp only [Hid]; rw [hz1]; omega
      have g3 : Hid (Instr.fill (fun i => some (i * i0.size, i0.size)) ((Array.range (1 * i0.size)).map (zero32.cells[· % zero32.cells.size]!)) [(0, .agg RV.toArray)] = some RV.toArray) := by simp only [Hid]; rw [hz1]; exact HF.out
      go_wp2_with (refine wpList_load_add rfl 23 (.tmp 14) rfl _ rfl RV _ ?hcc Tryd.underlying23 rfl HI.out (Held.go ?hold))
      case hcc => exact HC.out
      unfold Held
      refine wpList_buildSlice rfl 29 24 1 #[(0, .tmp 15)] rfl RV.toArray i0 zero32 Tryd.underlying29 hi0 hz0 g1.out g2.out ?b3 ?_
      case b3 =>
        simp only [List.map_toArray, List.map_cons, List.map_nil]
        exact g3.out
      refine wpList_app1 _ rfl _ _ 29 rfl 24 i0 zero32 32 32 Tryd.underlying29 hi0 hz0 hz1 hz2 rfl (by omega) _ _ _ rfl KG.out.own 1 RV.toArray _ rfl rfl HL.out HO.out (by omega) (by omega) ?_
      intro v2 w2 hG2
      have K2 : Hid (Grew 24 32 w (.slice none 0 0) w2 v2 (k + 1) ((ds.take (k + 1)).flatMap digC)) := by
        have h := KG.out.trans hG2
        simp only [Hid]
        rw [HT.out]
        exact h
      clear hG2
      go_wp2
      go_roundw
      case rel => exact ⟨k + 1, by omega, by go_num, K2.out⟩
      case measure => simp [intOf]; omega
    · have hd : decide ((k : Int) < (n : Int)) = false := decide_eq_false (by omega)
      have hd' : decide (k < n) = false := decide_eq_false (by omega)
      have HE : Hid (k = n) := by simp only [Hid]; omega
      go_wp2
      go_ret
      refine ⟨_, rfl, ?_⟩
      have h := KG.out
      rw [HE.out, List.take_of_length_le (by rw [HD.out.len]; exact Nat.le_refl _)] at h
      exact h
end Go.Proofs.YtkaghbpdnmigmaaDoor
