/- The law's back: written by genTrK.py out of own. -/
import Derived.Test.YtkaghbpdnmigmaaDoorTrJ
namespace Go.Proofs.YtkaghbpdnmigmaaDoor
open Go.RowKit

set_option maxRecDepth 100000 in
set_option maxHeartbeats 1000000 in
theorem back_any (n : Nat) (ds : List (List UInt8)) (A : Option Addr) (c : Nat) (S : Nat → Prop) (w : World) (hD : DigL w S A n ds) (hn : n ≤ 1048576) :
    Calls Tryd.prog 35 #[.slice A n c] w (Owned32 w n ds) := by
  obtain ⟨i0, hi0, hz0, hz1, hz2⟩ := info_parts info_D32'
  have HD := Lib.hid hD
  clear hD
  go_enter Tryd.func35, Tryd.ntmps35
  go_wp2
  go_loopw [3, 4] (fun v i wr => ∃ k : Nat, k ≤ n ∧ i = .int .i64 k ∧ Grew 23 32 w (.slice none 0 0) wr v k ((ds.take k).flatMap digC)) (fun _ i _ => n - (intOf i).toNat)
  case atStart => exact ⟨0, by omega, rfl, Grew.start ⟨rfl, .inl ⟨rfl, rfl⟩⟩⟩
  case round =>
    obtain ⟨k, hk, rfl, hG⟩ := hrel
    have KG := Lib.hid hG
    obtain ⟨A1, m, c1, rfl, H1, H2⟩ := own_slice hG.own
    clear hG
    by_cases hlt : k < n
    · obtain ⟨ad, d, rfl, hb, hd, hd32, hcell⟩ := (HD.out.fr0 KG.out.fr0).at_ hlt
      have hI : (k : Int) < (n : Int) := by omega
      have HC := Lib.hid hcell
      have HI : Hid ((Tryd.prog.info? 24).map (·.size) = some (digC d).length) := by rw [digC, List.length_map, hd32]; exact infoD
      have HF : Hid (Instr.fill (fun i => some (i * 32, 32)) ((Array.range (1 * 32)).map (zero32.cells[· % zero32.cells.size]!)) [(0, .agg (digC d).toArray)] = some (digC d).toArray) := fill_one _ _ (by simp [digC, hd32]) (by simp)
      have HL : Hid ((digC d).toArray.size = 1 * 32) := by simp [Hid, digC, hd32]
      have HO : Hid (∀ u ∈ (digC d).toArray.toList, u.oneCell' = true) := by
        intro u hu
        exact oneCell_bvI d u (by simpa [digC] using hu)
      have HT : Hid ((ds.take (k + 1)).flatMap digC = (ds.take k).flatMap digC ++ digC d) := by
        simp only [Hid]
        rw [List.take_add_one, hd, List.flatMap_append]
        simp
      clear hcell hd hd32
      generalize digC d = RV at *
      have g1 : Hid (¬ 1 * i0.size > 2 ^ 24) := by simp only [Hid]; rw [hz1]; omega
      have g2 : Hid (¬ 1 * i0.size = 0) := by simp only [Hid]; rw [hz1]; omega
      have g3 : Hid (Instr.fill (fun i => some (i * i0.size, i0.size)) ((Array.range (1 * i0.size)).map (zero32.cells[· % zero32.cells.size]!)) [(0, .agg RV.toArray)] = some RV.toArray) := by simp only [Hid]; rw [hz1]; exact HF.out
      go_wp2_with (refine wpList_load_add rfl 24 (.tmp 14) rfl _ rfl RV _ ?hcc Tryd.underlying24 rfl HI.out (Held.go ?hold))
      case hcc => exact HC.out
      unfold Held
      refine wpList_buildSlice rfl 22 23 1 #[(0, .tmp 15)] rfl RV.toArray i0 zero32 Tryd.underlying22 hi0 hz0 g1.out g2.out ?b3 ?_
      case b3 =>
        simp only [List.map_toArray, List.map_cons, List.map_nil]
        exact g3.out
      refine wpList_app1 _ rfl _ _ 22 rfl 23 i0 zero32 32 32 Tryd.underlying22 hi0 hz0 hz1 hz2 rfl (by omega) _ _ _ rfl KG.out.own 1 RV.toArray _ rfl rfl HL.out HO.out (by omega) (by omega) ?_
      intro v2 w2 hG2
      have K2 : Hid (Grew 23 32 w (.slice none 0 0) w2 v2 (k + 1) ((ds.take (k + 1)).flatMap digC)) := by
        have h := KG.out.trans hG2
        simp only [Hid]
        rw [HT.out]
        exact h
      clear hG2
      go_wp2
      go_roundw
      case rel => exact ⟨k + 1, by omega, by go_num, K2.out⟩
      case measure => simp [intOf]; omega
    · have hd : decide ((k : Int) < (n : Int)) = false := decide_eq_false (by omega)
      have hd' : decide (k < n) = false := decide_eq_false (by omega)
      have HE : Hid (k = n) := by simp only [Hid]; omega
      go_wp2
      go_ret
      refine ⟨_, rfl, ?_⟩
      have h := KG.out
      rw [HE.out, List.take_of_length_le (by rw [HD.out.len]; exact Nat.le_refl _)] at h
      exact h
end Go.Proofs.YtkaghbpdnmigmaaDoor
