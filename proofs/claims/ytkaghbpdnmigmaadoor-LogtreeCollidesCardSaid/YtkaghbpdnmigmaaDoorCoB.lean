/- The text of a pair (written by genCoB.py). -/
import Derived.Test.YtkaghbpdnmigmaaDoorCoA
namespace Go.Proofs.YtkaghbpdnmigmaaDoor
open Go.RowKit

theorem rd_half {w : World} {g : Nat} {t : TypeId} {L R : List UInt8} (h : Blk w g t ((L ++ R).map bvI).toArray) (hl : L.length = 32) (hr : R.length = 32) : Rd w (fun k => k = g) 1 (some ⟨g, 0, none⟩) 32 (L.map bvI) ∧ Rd w (fun k => k = g) 1 (some ⟨g, 32, none⟩) 32 (R.map bvI) := by
  refine ⟨⟨by simp [hl], fun _ => ⟨_, rfl, rfl, fun j u hu => ?_⟩⟩, ⟨by simp [hr], fun _ => ⟨_, rfl, rfl, fun j u hu => ?_⟩⟩⟩
  · have hj := (List.getElem?_eq_some_iff.1 hu).1
    rw [Addr.add_mid, Nat.zero_add, h.cell, List.getElem?_toArray, List.map_append, List.getElem?_append_left hj]
    exact hu
  · rw [Addr.add_mid, h.cell, List.getElem?_toArray, List.map_append, List.getElem?_append_right (by simp; omega), List.length_map, hl, show 32 + j - 32 = j by omega]
    exact hu

set_option maxRecDepth 100000 in
set_option maxHeartbeats 2000000 in
theorem text_any (l r : List UInt8) (hl : l.length = 32) (hr : r.length = 32) (w : World) : Calls Tryd.prog 57 #[.agg (digC l ++ digC r).toArray] w (Same' w (.string ⟨(joinL 1 [l, r]).toArray⟩)) := by
  have el : txL ⟨l.toArray⟩ = l := by simp [txL]
  have er : txL ⟨r.toArray⟩ = r := by simp [txL]
  have CT : Hid (∀ (W : World) (b : Nat), W.cell? ⟨b, 0, none⟩ = some (.string ⟨l.toArray⟩) → W.cell? ⟨b, 1, none⟩ = some (.string ⟨r.toArray⟩) → Calls Tryd.prog 70 #[.int .u8 1, .slice (some ⟨b, 0, none⟩) 2 2] W (Joined W ⟨(joinL 1 [l, r]).toArray⟩)) := by
    intro W b h0 h1
    have h := Join_any 1 [⟨l.toArray⟩, ⟨r.toArray⟩] (some ⟨b, 0, none⟩) 2 2 _ W (rd_two h0 h1) (by omega) (JoinK_le2 1 _ _ (by rw [ByteArray.size, List.size_toArray, hl]; omega) (by rw [ByteArray.size, List.size_toArray, hr]; omega)) (by
      intro p hp
      simp only [List.mem_cons, List.not_mem_nil, or_false] at hp
      rcases hp with rfl | rfl <;> simp only [ByteArray.size, List.size_toArray, hl, hr] <;> omega)
    simp only [List.map_cons, List.map_nil, el, er] at h
    exact h
  have RH : Hid (∀ {w' : World} {g : Nat} {t : TypeId}, Blk w' g t ((l ++ r).map bvI).toArray → (convert 79 9 (.slice (some ⟨g, 0, none⟩) 32 32)).run Tryd.prog w' = .ok (.string ⟨l.toArray⟩) w' ∧ (convert 79 9 (.slice (some ⟨g, 32, none⟩) 32 32)).run Tryd.prog w' = .ok (.string ⟨r.toArray⟩) w') := fun hb =>
    ⟨run_str (P := Tryd.prog) _ 79 9 5 Tryd.underlying79 Tryd.underlying5 Tryd.underlying9 _ _ 32 32 l (rd_half hb hl hr).1, run_str (P := Tryd.prog) _ 79 9 5 Tryd.underlying79 Tryd.underlying5 Tryd.underlying9 _ _ 32 32 r (rd_half hb hl hr).2⟩
  have e0 : digC l ++ digC r = (l ++ r).map bvI := by unfold digC; rw [List.map_append]
  rw [e0]
  generalize (l ++ r).map bvI = PV at *
  generalize (⟨l.toArray⟩ : ByteArray) = LS at *
  generalize (⟨r.toArray⟩ : ByteArray) = RS at *
  generalize (⟨(joinL 1 [l, r]).toArray⟩ : ByteArray) = JS at *
  clear hl hr el er e0
  go_enter Tryd.func57, Tryd.ntmps57
  go_wp2_with (refine wpList_boxBlk rfl 94 (.tmp 0) rfl _ rfl ?_)
  intro w1 n1
  have B1 := Lib.hid n1.blk
  have F1 := Lib.hid n1.fr
  clear n1
  generalize w.heap.size = g at *
  have CL : Hid (∀ w', Fr Nothing w1 w' → (convert 79 9 (.slice (some ⟨g, 0, none⟩) 32 32)).run Tryd.prog w' = .ok (.string LS) w') := fun w' hf => (RH.out (B1.out.fr hf (fun x => x))).1
  have CR : Hid (∀ w', Fr Nothing w1 w' → (convert 79 9 (.slice (some ⟨g, 32, none⟩) 32 32)).run Tryd.prog w' = .ok (.string RS) w') := fun w' hf => (RH.out (B1.out.fr hf (fun x => x))).2
  go_upto_region 1 with fail
  refine wp_region_st 13 Nothing [Is (.pointer (some ⟨g, 0, none⟩)), Is (.slice (some ⟨g, 0, none⟩) 32 32), Is (.string LS), Is (.pointer (some ⟨g, 32, none⟩)), Is (.slice (some ⟨g, 32, none⟩) 32 32), Is (.string RS), fun v w' => ∃ b, v = .slice (some ⟨b, 0, none⟩) 2 2 ∧ w'.cell? ⟨b, 0, none⟩ = some (.string LS) ∧ w'.cell? ⟨b, 1, none⟩ = some (.string RS), Is (.tuple #[.string JS, .int .i64 0]), Is (.tuple #[.string JS, .int .i64 0]), Is (.string JS), Is (.int .i64 0), Is (.string JS), Is (.int .i64 0)] [] (fun _ => True) (fun _ _ => false) (by kernel_rfl) (by kernel_rfl) (by kernel_rfl) (by kernel_rfl) ⟨Is.stable _, Is.stable _, Is.stable _, Is.stable _, Is.stable _, Is.stable _, fun v w' w'' _ hf ⟨b, h, c0, c1⟩ => ⟨b, h, hf.cellSome c0 (fun x => x), hf.cellSome c1 (fun x => x)⟩, Is.stable _, Is.stable _, Is.stable _, Is.stable _, Is.stable _, Is.stable _, trivial⟩ trivial (fun _ _ _ _ h => h) trivial ?_ ?_
  · refine ⟨fun u w' d hf hR k1 k0 kM => ?_, fun u w' d hf hR k1 k0 kM => ?_, fun u w' d hf hR k1 k0 kM => ?_, fun u w' d hf hR k1 k0 kM => ?_, fun u w' d hf hR k1 k0 kM => ?_, fun u w' d hf hR k1 k0 kM => ?_, fun u w' d hf hR k1 k0 kM => ?_, fun u w' d hf hR k1 k0 kM => ?_, fun u w' d hf hR k1 k0 kM => ?_, fun u w' d hf hR k1 k0 kM => ?_, fun u w' d hf hR k1 k0 kM => ?_, fun u w' d hf hR k1 k0 kM => ?_, fun u w' d hf hR k1 k0 kM => ?_, trivial⟩
    all_goals simp only [List.take_succ_cons, List.take_zero, List.map_cons, List.map_nil, puts, Act.put, List.setIfInBounds_toArray, List.set_cons_zero, List.set_cons_succ, Nat.reduceAdd, Nat.zero_add]
    · clear hR k1 k0 kM
      refine .inl ⟨by kernel_rfl, ?_⟩
      go_simp
      exact ⟨_, rfl, Fr.refl _ _, rfl, trivial⟩
    · have h0 : u 0 = _ := hR 0 (by kernel_rfl)
      clear hR k1 k0 kM
      simp only [h0]
      refine .inl ⟨by kernel_rfl, ?_⟩
      go_simp
      exact ⟨_, rfl, Fr.refl _ _, rfl, trivial⟩
    · have h1 : u 1 = _ := hR 1 (by kernel_rfl)
      clear hR k1 k0 kM
      simp only [h1]
      refine .inl ⟨by kernel_rfl, ?_⟩
      have hq := CL.out w' hf
      go_simp
      exact ⟨_, rfl, Fr.refl _ _, rfl, trivial⟩
    · clear hR k1 k0 kM
      refine .inl ⟨by kernel_rfl, ?_⟩
      go_simp
      exact ⟨_, rfl, Fr.refl _ _, rfl, trivial⟩
    · have h3 : u 3 = _ := hR 3 (by kernel_rfl)
      clear hR k1 k0 kM
      simp only [h3]
      refine .inl ⟨by kernel_rfl, ?_⟩
      go_simp
      exact ⟨_, rfl, Fr.refl _ _, rfl, trivial⟩
    · have h4 : u 4 = _ := hR 4 (by kernel_rfl)
      clear hR k1 k0 kM
      simp only [h4]
      refine .inl ⟨by kernel_rfl, ?_⟩
      have hq := CR.out w' hf
      go_simp
      exact ⟨_, rfl, Fr.refl _ _, rfl, trivial⟩
    · have h2 : u 2 = _ := hR 2 (by kernel_rfl)
      have h5 : u 5 = _ := hR 5 (by kernel_rfl)
      clear hR k1 k0 kM
      simp only [h2, h5]
      refine .inl ⟨by kernel_rfl, ?_⟩
      go_simp
      exact ⟨_, rfl, (Fr.refl _ _).alloc _, ⟨w'.heap.size, rfl, by simp, by simp⟩, trivial⟩
    · obtain ⟨b, h6, c0, c1⟩ := hR 6 (by kernel_rfl)
      clear hR k1 k0 kM
      simp only [h6]
      refine .inl ⟨by kernel_rfl, ?_⟩
      go_simp
      refine (CT.out _ _ c0 c1).mono ?_
      rintro e w4 ⟨rfl, f4⟩
      exact ⟨_, rfl, f4.weak, rfl, trivial⟩
    · have h7 : u 7 = _ := hR 7 (by kernel_rfl)
      clear hR k1 k0 kM
      simp only [h7]
      refine .inl ⟨by kernel_rfl, ?_⟩
      go_simp
      exact ⟨_, rfl, Fr.refl _ _, rfl, trivial⟩
    · have h8 : u 8 = _ := hR 8 (by kernel_rfl)
      clear hR k1 k0 kM
      simp only [h8]
      refine .inl ⟨by kernel_rfl, ?_⟩
      go_simp
      exact ⟨_, rfl, Fr.refl _ _, rfl, trivial⟩
    · have h8 : u 8 = _ := hR 8 (by kernel_rfl)
      clear hR k1 k0 kM
      simp only [h8]
      refine .inl ⟨by kernel_rfl, ?_⟩
      go_simp
      exact ⟨_, rfl, Fr.refl _ _, rfl, trivial⟩
    · have h9 : u 9 = _ := hR 9 (by kernel_rfl)
      clear hR k1 k0 kM
      simp only [h9]
      refine .inl ⟨by kernel_rfl, ?_⟩
      go_simp
      exact ⟨_, rfl, Fr.refl _ _, rfl, trivial⟩
    · have h10 : u 10 = _ := hR 10 (by kernel_rfl)
      clear hR k1 k0 kM
      simp only [h10]
      refine .inl ⟨by kernel_rfl, ?_⟩
      go_simp
      exact ⟨_, rfl, Fr.refl _ _, rfl, trivial⟩
  · intro u w' hf hR kM
    have h11 : u 11 = _ := hR 11 (by omega)
    clear hR kM
    simp only [List.take_succ_cons, List.take_zero, List.map_cons, List.map_nil, puts, Act.put, List.setIfInBounds_toArray, List.set_cons_zero, List.set_cons_succ, List.drop_succ_cons, List.drop_zero, Nat.reduceAdd, Nat.zero_add, h11]
    have F2 := Lib.hid (F1.out.trans hf)
    clear hf
    go_wp2
    go_ret
    exact ⟨rfl, F2.out⟩
end Go.Proofs.YtkaghbpdnmigmaaDoor
