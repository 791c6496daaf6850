/- State: one change done to both (written by genSbL.py). -/
import Derived.Test.YtpnchdgplpdefaaDoorSbK
namespace Go.Proofs.YtpnchdgplpdefaaDoor
open Go.RowKit Go.Shelf

theorem CL.one {w : World} {g : Nat} {t : TypeId} {c : CV} (h : Blk w g t c.cells.toArray) : CL w (fun _ => True) (some ⟨g, 0, none⟩) 1 [c] := by
  refine ⟨⟨rfl, fun _ => ⟨_, rfl, trivial, fun j y hy => ?_⟩⟩, rfl⟩
  rw [Addr.add_mid, Nat.zero_add, h.cell, List.getElem?_toArray]
  simpa using hy
theorem RApplied.one {w w' : World} {L : List Ent} {c : CV} {e : Ending} (h : RApplied w L [c] e w') : ∃ p k, e = .returned (.tuple #[p, .int .i64 k]) ∧ Fr Nothing w w' ∧
    ((okNm c.nm = true ∧ k = 0 ∧ RowE w' p (nextC c L)) ∨ (okNm c.nm = false ∧ k = 12 ∧ p = .slice none 0 0)) := by
  obtain ⟨p, k, he, hf, h1 | h1⟩ := h
  · exact ⟨p, k, he, hf, .inl ⟨h1.1 c (List.mem_singleton.2 rfl), h1.2.1, h1.2.2⟩⟩
  · obtain ⟨⟨x, hx, ho⟩, h2, h3⟩ := h1
    rw [List.mem_singleton] at hx
    subst hx
    exact ⟨p, k, he, hf, .inr ⟨ho, h2, h3⟩⟩
def Oned (w : World) (c : CV) (L : List Ent) (e : Ending) (w' : World) : Prop := ∃ s' rv', e = .returned (.tuple #[.pointer (some ⟨s', 0, none⟩), rv', .bool true]) ∧ Fr Nothing w w' ∧ StL w' s' (stepC c L) ∧ RowE w' rv' (stepC c L)

set_option maxRecDepth 100000 in
set_option maxHeartbeats 4000000 in
theorem one_any (L : List Ent) (c : CV) (s m : Nat) (rv : Value) (w : World) (hS : StL w s L) (hR : RowE w rv L) (hU : UsaT w) (hG : GoodK m L) (hC : SmallC c) (hm : m + 1 ≤ 60000) :
    Calls Tryd.prog 15 #[.pointer (some ⟨s, 0, none⟩), rv, .agg c.cells.toArray, .agg c.cells.toArray] w (Oned w c L) := by
  obtain ⟨ic, hic, hzc, hc1, hc2⟩ := info_parts zinfoC
  obtain ⟨A1, n1, c1, rfl, H1, _⟩ := own_slice hR
  have HS := Lib.hid hS
  have HR := Lib.hid hR
  have HU := Lib.hid hU
  have HC := Lib.hid hC
  have GK := Lib.hid hG
  have GL : Hid (GoodL L) := hG.good (by omega)
  have CO := Lib.hid c.one
  have fl5 := Lib.hid (fill_seven c.cells.toArray ((Array.range (1 * 7)).map (zeroC.cells[· % zeroC.cells.size]!)) rfl (by simp))
  have gc1 : Hid (¬ 1 * ic.size > 2 ^ 24) := by simp only [Hid]; rw [hc1]; omega
  have gc2 : Hid (¬ 1 * ic.size = 0) := by simp only [Hid]; rw [hc1]; omega
  have gc3 : Hid (Instr.fill (fun i => some (i * ic.size, ic.size)) ((Array.range (1 * ic.size)).map (zeroC.cells[· % zeroC.cells.size]!)) [(0, .agg c.cells.toArray)] = some c.cells.toArray) := by simp only [Hid]; rw [hc1]; exact fl5.out
  clear hS hR hU hC hG fl5
  go_enter Tryd.func15, Tryd.ntmps15
  go_wp2_with (refine wpList_boxBlk rfl 38 (.tmp 2) rfl c.cells.toArray rfl ?_)
  intro wa na
  have BA := Lib.hid na.blk
  have FA := Lib.hid na.fr
  clear na
  generalize w.heap.size = g6 at *
  go_wp2_with (refine wpList_boxBlk rfl 42 (.tmp 3) rfl c.cells.toArray rfl ?_)
  intro wb nb
  have B7a := Lib.hid nb.blk
  have FB : Hid (Fr Nothing w wb) := FA.out.trans nb.fr
  have B6 : Hid (Blk wb g6 38 c.cells.toArray) := BA.out.fr nb.fr (fun x => x)
  clear nb
  generalize wa.heap.size = g7 at *
  have B7 : Hid (Blk wb g7 42 c.cells.toArray) := B7a.out
  clear B7a FA BA
  have cA : wb.cell? { block := g6, off := 6 } = some (.bool c.absent) := B6.out.cell 6
  have cV : wb.cell? { block := g6, off := 5 } = some (.string c.value) := B6.out.cell 5
  have CN : Hid (∀ j x, c.nm.cells[j]? = some x → wb.cell? ((⟨g6, 0, none⟩ : Addr).add j) = some x) := fun j x hx => by
    rw [Addr.add_mid, Nat.zero_add, B6.out.cell j, List.getElem?_toArray, CV.cells, List.getElem?_append_left (List.getElem?_eq_some_iff.1 hx).1]
    exact hx
  cases hab : c.absent
  · rw [hab] at cA
    have HN : Hid (nextC c L = insL c.nm c.value L) := by simp only [Hid, nextC, hab]; rfl
    have CW : Hid (∀ w', Fr Nothing w w' → Calls Tryd.prog 31 #[.pointer (some ⟨s, 0, none⟩), .agg c.nm.cells.toArray, .string c.value] w' (Withed w' L c.nm c.value)) := fun w' f => With_any _ _ _ _ _ (HS.out.fr0 f) (HU.out.fr0 f) GL.out HC.out.name
    have HV : Hid (c.value.size ≤ 65536) := by have := HC.out.value; simp only [Hid]; omega
    clear hab
    go_wp2_with (refine wpList_load_add rfl 36 (.tmp 26) rfl ⟨g6, 0, none⟩ rfl c.nm.cells _ ?hcn1 Tryd.underlying36 rfl infoName (Held.go ?hold1))
    case hcn1 => exact CN.out
    unfold Held
    go_wp2_with fail
    refine (CW.out _ FB.out).mono ?_
    rintro e w3 ⟨p, q, rfl, f3, hcase⟩
    have F3 : Hid (Fr Nothing w w3) := FB.out.trans f3
    have B7c : Hid (Blk w3 g7 42 c.cells.toArray) := B7.out.fr f3 (fun x => x)
    cases hok : okNm c.nm
    · have hcc : q = 12 ∧ p = none := by
        rcases hcase with ⟨h, _⟩ | ⟨_, h⟩ | ⟨h, _⟩
        · rw [hok] at h; cases h
        · exact h
        · rw [hok] at h; cases h
      obtain ⟨rfl, rfl⟩ := hcc
      have HOK := Lib.hid hok
      clear hcase hok f3
      go_wp2_with (refine wpList_load_add rfl 42 (.tmp 7) rfl ⟨g7, 0, none⟩ rfl c.cells _ ?hcc12 Tryd.underlying42 rfl infoC (Held.go ?hold12))
      case hcc12 => exact fun j x hx => by rw [Addr.add_mid, Nat.zero_add, B7c.out.cell, List.getElem?_toArray]; exact hx
      unfold Held
      refine wpList_buildSlice rfl 22 42 1 #[(0, .tmp 35)] rfl c.cells.toArray ic zeroC Tryd.underlying22 hic hzc gc1.out gc2.out (by simp only [List.map_toArray, List.map_cons, List.map_nil]; exact gc3.out) ?_
      have B4 := Lib.hid (Blk.new w3 42 c.cells.toArray)
      have F4 : Hid (Fr Nothing w (w3.alloc (.cells c.cells.toArray 42))) := F3.out.trans ((Fr.refl Nothing w3).alloc _)
      have F34 : Hid (Fr Nothing w3 (w3.alloc (.cells c.cells.toArray 42))) := (Fr.refl Nothing w3).alloc _
      generalize w3.heap.size = g4 at *
      generalize w3.alloc (.cells c.cells.toArray 42) = w4 at *
      have CA : Hid (Calls Tryd.prog 27 #[.slice A1 n1 c1, .slice (some ⟨g4, 0, none⟩) 1 1] w4 (RApplied w4 L [c])) := rApply_any L [c] 1 m _ _ _ _ w4 (HR.out.fr0 F4.out) GK.out (CL.one B4.out) (fun x hx => by rw [List.mem_singleton] at hx; subst hx; exact HC.out) hm
      go_wp2_with fail
      refine CA.out.mono ?_
      intro e w5 hA
      obtain ⟨p2, q2, rfl, f5, hcase2⟩ := hA.one
      have F5 : Hid (Fr Nothing w w5) := F4.out.trans f5
      have F35 : Hid (Fr Nothing w3 w5) := F34.out.trans f5
      obtain ⟨rfl, rfl⟩ : q2 = 12 ∧ p2 = .slice none 0 0 := by
        rcases hcase2 with ⟨h, _⟩ | ⟨_, h⟩
        · rw [HOK.out] at h; cases h
        · exact h
      clear hcase2 hA f5
      go_wp2
      go_ret3
      refine ⟨s, _, rfl, F5.out, ?_, ?_⟩
      · rw [stepC, HOK.out]
        exact HS.out.fr0 F5.out
      · rw [stepC, HOK.out]
        exact HR.out.fr0 F5.out
    · obtain ⟨rfl, s', rfl, hp⟩ : q = 0 ∧ ∃ s', p = some ⟨s', 0, none⟩ ∧ StL w3 s' (nextC c L) := by
        rw [HN.out]
        rcases hcase with ⟨_, _, h⟩ | ⟨h, _⟩ | ⟨_, h, _⟩
        · exact h
        · rw [hok] at h; cases h
        · exact absurd HV.out (by omega)
      have HOK := Lib.hid hok
      have HP := Lib.hid hp
      clear hcase hok f3 hp
      go_wp2_with (refine wpList_load_add rfl 42 (.tmp 7) rfl ⟨g7, 0, none⟩ rfl c.cells _ ?hcc13 Tryd.underlying42 rfl infoC (Held.go ?hold13))
      case hcc13 => exact fun j x hx => by rw [Addr.add_mid, Nat.zero_add, B7c.out.cell, List.getElem?_toArray]; exact hx
      unfold Held
      refine wpList_buildSlice rfl 22 42 1 #[(0, .tmp 35)] rfl c.cells.toArray ic zeroC Tryd.underlying22 hic hzc gc1.out gc2.out (by simp only [List.map_toArray, List.map_cons, List.map_nil]; exact gc3.out) ?_
      have B4 := Lib.hid (Blk.new w3 42 c.cells.toArray)
      have F4 : Hid (Fr Nothing w (w3.alloc (.cells c.cells.toArray 42))) := F3.out.trans ((Fr.refl Nothing w3).alloc _)
      have F34 : Hid (Fr Nothing w3 (w3.alloc (.cells c.cells.toArray 42))) := (Fr.refl Nothing w3).alloc _
      generalize w3.heap.size = g4 at *
      generalize w3.alloc (.cells c.cells.toArray 42) = w4 at *
      have CA : Hid (Calls Tryd.prog 27 #[.slice A1 n1 c1, .slice (some ⟨g4, 0, none⟩) 1 1] w4 (RApplied w4 L [c])) := rApply_any L [c] 1 m _ _ _ _ w4 (HR.out.fr0 F4.out) GK.out (CL.one B4.out) (fun x hx => by rw [List.mem_singleton] at hx; subst hx; exact HC.out) hm
      go_wp2_with fail
      refine CA.out.mono ?_
      intro e w5 hA
      obtain ⟨p2, q2, rfl, f5, hcase2⟩ := hA.one
      have F5 : Hid (Fr Nothing w w5) := F4.out.trans f5
      have F35 : Hid (Fr Nothing w3 w5) := F34.out.trans f5
      obtain ⟨rfl, hp2⟩ : q2 = 0 ∧ RowE w5 p2 (nextC c L) := by
        rcases hcase2 with ⟨_, h⟩ | ⟨h, _⟩
        · exact h
        · rw [HOK.out] at h; cases h
      have HP2 := Lib.hid hp2
      clear hcase2 hp2 hA f5
      go_wp2
      go_ret3
      refine ⟨s', _, rfl, F5.out, ?_, ?_⟩
      · rw [stepC, HOK.out]
        exact HP.out.fr0 F35.out
      · rw [stepC, HOK.out]
        exact HP2.out
  · rw [hab] at cA
    have HN : Hid (nextC c L = delL c.nm L) := by simp only [Hid, nextC, hab]; rfl
    have CW : Hid (∀ w', Fr Nothing w w' → Calls Tryd.prog 32 #[.pointer (some ⟨s, 0, none⟩), .agg c.nm.cells.toArray] w' (Withouted w' L c.nm)) := fun w' f => Without_any _ _ _ _ (HS.out.fr0 f) (HU.out.fr0 f) GL.out HC.out.name
    have HV : Hid (c.value.size ≤ 65536) := by have := HC.out.value; simp only [Hid]; omega
    clear hab
    go_wp2_with (refine wpList_load_add rfl 36 (.tmp 19) rfl ⟨g6, 0, none⟩ rfl c.nm.cells _ ?hcn2 Tryd.underlying36 rfl infoName (Held.go ?hold2))
    case hcn2 => exact CN.out
    unfold Held
    go_wp2_with fail
    refine (CW.out _ FB.out).mono ?_
    rintro e w3 ⟨p, q, rfl, f3, hcase⟩
    have F3 : Hid (Fr Nothing w w3) := FB.out.trans f3
    have B7c : Hid (Blk w3 g7 42 c.cells.toArray) := B7.out.fr f3 (fun x => x)
    cases hok : okNm c.nm
    · have hcc : q = 12 ∧ p = none := by
        rcases hcase with ⟨h, _⟩ | ⟨_, h⟩ 
        · rw [hok] at h; cases h
        · exact h
      obtain ⟨rfl, rfl⟩ := hcc
      have HOK := Lib.hid hok
      clear hcase hok f3
      go_wp2_with (refine wpList_load_add rfl 42 (.tmp 7) rfl ⟨g7, 0, none⟩ rfl c.cells _ ?hcc10 Tryd.underlying42 rfl infoC (Held.go ?hold10))
      case hcc10 => exact fun j x hx => by rw [Addr.add_mid, Nat.zero_add, B7c.out.cell, List.getElem?_toArray]; exact hx
      unfold Held
      refine wpList_buildSlice rfl 22 42 1 #[(0, .tmp 35)] rfl c.cells.toArray ic zeroC Tryd.underlying22 hic hzc gc1.out gc2.out (by simp only [List.map_toArray, List.map_cons, List.map_nil]; exact gc3.out) ?_
      have B4 := Lib.hid (Blk.new w3 42 c.cells.toArray)
      have F4 : Hid (Fr Nothing w (w3.alloc (.cells c.cells.toArray 42))) := F3.out.trans ((Fr.refl Nothing w3).alloc _)
      have F34 : Hid (Fr Nothing w3 (w3.alloc (.cells c.cells.toArray 42))) := (Fr.refl Nothing w3).alloc _
      generalize w3.heap.size = g4 at *
      generalize w3.alloc (.cells c.cells.toArray 42) = w4 at *
      have CA : Hid (Calls Tryd.prog 27 #[.slice A1 n1 c1, .slice (some ⟨g4, 0, none⟩) 1 1] w4 (RApplied w4 L [c])) := rApply_any L [c] 1 m _ _ _ _ w4 (HR.out.fr0 F4.out) GK.out (CL.one B4.out) (fun x hx => by rw [List.mem_singleton] at hx; subst hx; exact HC.out) hm
      go_wp2_with fail
      refine CA.out.mono ?_
      intro e w5 hA
      obtain ⟨p2, q2, rfl, f5, hcase2⟩ := hA.one
      have F5 : Hid (Fr Nothing w w5) := F4.out.trans f5
      have F35 : Hid (Fr Nothing w3 w5) := F34.out.trans f5
      obtain ⟨rfl, rfl⟩ : q2 = 12 ∧ p2 = .slice none 0 0 := by
        rcases hcase2 with ⟨h, _⟩ | ⟨_, h⟩
        · rw [HOK.out] at h; cases h
        · exact h
      clear hcase2 hA f5
      go_wp2
      go_ret3
      refine ⟨s, _, rfl, F5.out, ?_, ?_⟩
      · rw [stepC, HOK.out]
        exact HS.out.fr0 F5.out
      · rw [stepC, HOK.out]
        exact HR.out.fr0 F5.out
    · obtain ⟨rfl, s', rfl, hp⟩ : q = 0 ∧ ∃ s', p = some ⟨s', 0, none⟩ ∧ StL w3 s' (nextC c L) := by
        rw [HN.out]
        rcases hcase with ⟨_, h⟩ | ⟨h, _⟩
        · exact h
        · rw [hok] at h; cases h
      have HOK := Lib.hid hok
      have HP := Lib.hid hp
      clear hcase hok f3 hp
      go_wp2_with (refine wpList_load_add rfl 42 (.tmp 7) rfl ⟨g7, 0, none⟩ rfl c.cells _ ?hcc11 Tryd.underlying42 rfl infoC (Held.go ?hold11))
      case hcc11 => exact fun j x hx => by rw [Addr.add_mid, Nat.zero_add, B7c.out.cell, List.getElem?_toArray]; exact hx
      unfold Held
      refine wpList_buildSlice rfl 22 42 1 #[(0, .tmp 35)] rfl c.cells.toArray ic zeroC Tryd.underlying22 hic hzc gc1.out gc2.out (by simp only [List.map_toArray, List.map_cons, List.map_nil]; exact gc3.out) ?_
      have B4 := Lib.hid (Blk.new w3 42 c.cells.toArray)
      have F4 : Hid (Fr Nothing w (w3.alloc (.cells c.cells.toArray 42))) := F3.out.trans ((Fr.refl Nothing w3).alloc _)
      have F34 : Hid (Fr Nothing w3 (w3.alloc (.cells c.cells.toArray 42))) := (Fr.refl Nothing w3).alloc _
      generalize w3.heap.size = g4 at *
      generalize w3.alloc (.cells c.cells.toArray 42) = w4 at *
      have CA : Hid (Calls Tryd.prog 27 #[.slice A1 n1 c1, .slice (some ⟨g4, 0, none⟩) 1 1] w4 (RApplied w4 L [c])) := rApply_any L [c] 1 m _ _ _ _ w4 (HR.out.fr0 F4.out) GK.out (CL.one B4.out) (fun x hx => by rw [List.mem_singleton] at hx; subst hx; exact HC.out) hm
      go_wp2_with fail
      refine CA.out.mono ?_
      intro e w5 hA
      obtain ⟨p2, q2, rfl, f5, hcase2⟩ := hA.one
      have F5 : Hid (Fr Nothing w w5) := F4.out.trans f5
      have F35 : Hid (Fr Nothing w3 w5) := F34.out.trans f5
      obtain ⟨rfl, hp2⟩ : q2 = 0 ∧ RowE w5 p2 (nextC c L) := by
        rcases hcase2 with ⟨_, h⟩ | ⟨h, _⟩
        · exact h
        · rw [HOK.out] at h; cases h
      have HP2 := Lib.hid hp2
      clear hcase2 hp2 hA f5
      go_wp2
      go_ret3
      refine ⟨s', _, rfl, F5.out, ?_, ?_⟩
      · rw [stepC, HOK.out]
        exact HP.out.fr0 F35.out
      · rw [stepC, HOK.out]
        exact HP2.out
end Go.Proofs.YtpnchdgplpdefaaDoor
