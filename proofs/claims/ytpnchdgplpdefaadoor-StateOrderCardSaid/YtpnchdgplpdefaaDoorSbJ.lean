/- State: the reference's Without, Get (written by genSbJ.py). -/
import Derived.Test.YtpnchdgplpdefaaDoorSbI
namespace Go.Proofs.YtpnchdgplpdefaaDoor
open Go.RowKit Go.Shelf

set_option maxRecDepth 100000 in
set_option maxHeartbeats 8000000 in
theorem rWithout_any (L : List Ent) (n : NameV) (rv : Value) (w : World) (hR : RowE w rv L) (hG : GoodL L) (hN : GoodN n) :
    Calls Tryd.prog 47 #[rv, .agg n.cells.toArray] w (RWithouted w L n) := by
  obtain ⟨i0, hi0, hz0', hz1, hz2⟩ := info_parts zinfoE
  obtain ⟨A, m0, c, rfl, hm0, _⟩ := own_slice hR
  obtain ⟨hlen, hel, hmc⟩ := hR.el
  clear hm0
  have HEL := Lib.hid hel
  have HR := Lib.hid hR
  have HLE := Lib.hid hlen
  have HCAP : Hid (m0 ≤ c ∧ c ≤ 9223372036854775807 ∧ (A = none → m0 = 0 ∧ c = 0)) := by
    rcases hR.form with ⟨h1, h2⟩ | ⟨g, c', h1, h2, h3⟩
    · cases h1; exact ⟨by omega, by omega, fun _ => ⟨rfl, rfl⟩⟩
    · cases h1; unfold maxLen at h3; exact ⟨h2, h3, fun h => by cases h⟩
  have hm6 : m0 ≤ 60000 := by have := hG.len; omega
  have HM6 := Lib.hid hm6
  have CF : Hid (∀ w', Fr Nothing w w' → Calls Tryd.prog 42 #[.slice A m0 c, .agg n.cells.toArray] w' (RFound w' n L)) := fun w' f => rFind_any n L A m0 c _ w' (hel.fr0 f) hm6 hN.owner hG.short
  have CK : Hid (∀ w', Calls Tryd.prog 80 #[.agg n.cells.toArray] w' (Checked w' n)) := fun w' => rCheck_any n w' hN.owner hN.text
  have HSO := Lib.hid hG.sort
  clear hR hel hG hN hlen hmc
  go_enter Tryd.func47, Tryd.ntmps47
  go_wp2_with (refine wpList_boxBlk rfl 40 (.tmp 1) rfl n.cells.toArray rfl ?_)
  intro w1 n1
  have F1 := Lib.hid n1.fr
  have NB0 := Lib.hid n1.blk
  clear n1
  generalize w.heap.size = gb at *
  have NB : Hid (Blk w1 gb 40 n.cells.toArray) := NB0.out
  clear NB0
  go_wp2_with (refine wpList_load_add rfl 40 (.tmp 3) rfl ⟨gb, 0, none⟩ rfl n.cells _ ?hcc1 Tryd.underlying40 rfl infoN (Held.go ?hold1))
  case hcc1 => exact fun j x hx => by rw [Addr.add_mid, Nat.zero_add]; exact NB.out.cell j |>.trans (by rw [List.getElem?_toArray]; exact hx)
  unfold Held
  go_wp2_with fail
  refine (CK.out _).mono ?_
  rintro e w2 ⟨q, rfl, hq, f2⟩
  have F2 := Lib.hid (F1.out.trans f2)
  have NB2 := Lib.hid (NB.out.fr f2 (fun x => x))
  have HQ := Lib.hid hq
  clear f2 hq NB F1 CK
  cases hok : okNm n
  · have hq0 : q ≠ 0 := by
      have h := HQ.out
      rw [hok] at h
      exact beq_eq_false_iff_ne.1 h
    have t0 := bne0 hq0
    have HOK := Lib.hid hok
    clear hok hq0
    go_wp2
    go_ret2
    exact ⟨_, 12, rfl, F2.out, .inr ⟨HOK.out, rfl, rfl⟩⟩
  have hq0 : q = 0 := by
    have h := HQ.out
    rw [hok] at h
    exact beq_iff_eq.1 h
  subst hq0
  have HOK := Lib.hid hok
  clear hok
  go_wp2_with (refine wpList_load_add rfl 40 (.tmp 3) rfl ⟨gb, 0, none⟩ rfl n.cells _ ?hcc2 Tryd.underlying40 rfl infoN (Held.go ?hold2))
  case hcc2 => exact fun j x hx => by rw [Addr.add_mid, Nat.zero_add]; exact NB2.out.cell j |>.trans (by rw [List.getElem?_toArray]; exact hx)
  unfold Held
  go_wp2_with fail
  refine (CF.out _ F2.out).mono ?_
  rintro e w3 ⟨k, b, rfl, f3, hk, hlt, hcase⟩
  have F3 := Lib.hid (F2.out.trans f3)
  have NB3 := Lib.hid (NB2.out.fr f3 (fun x => x))
  have HK : Hid (k ≤ m0) := by have := HLE.out; simp only [Hid]; omega
  have HDEL := Lib.hid (rank_del HSO.out hlt hcase)
  have HBK : Hid (b = true → k + 1 ≤ m0 ∧ ∃ x, L[k]? = some x) := fun hb => by
    rcases hcase with ⟨_, h⟩ | ⟨x, hx, _, _⟩
    · rw [hb] at h; cases h
    · have := (List.getElem?_eq_some_iff.1 hx).1
      have := HLE.out
      exact ⟨by omega, x, hx⟩
  clear f3 hk hlt hcase CF
  cases b
  · have HD : Hid (delL n L = L) := (by have h := HDEL.out.1; simp at h; exact h)
    go_wp2
    go_ret2
    refine ⟨_, 0, rfl, F3.out, .inl ⟨HOK.out, rfl, ?_⟩⟩
    rw [HD.out]
    exact HR.out.fr0 F3.out
  · cases A with
    | none =>
      obtain ⟨rfl, rfl⟩ := HCAP.out.2.2 rfl
      exact absurd (HBK.out (by first | rfl | trivial)).1 (by omega)
    | some ad =>
      have Z1' := (HBK.out (by first | rfl | trivial)).1
      obtain ⟨k1, hk1⟩ : ∃ k1, k1 = k + 1 := ⟨_, rfl⟩
      rw [← hk1] at Z1'
      have HK1 := Lib.hid hk1
      have Z1 := Lib.hid Z1'
      have t1 : (k : Int) + 1 = (k1 : Int) := by omega
      have t2 : (k1 : Int) ≤ (m0 : Int) := by omega
      have t2' : (0 : Int) ≤ (k1 : Int) := by omega
      have t3 : m0 ≤ c := HCAP.out.1
      have t4 : (m0 : Int) ≤ (c : Int) := by omega
      have t5 : (k : Int) ≤ (c : Int) := by omega
      have t6 : k ≤ c := by omega
      have t7 : (0 : Int) ≤ (k : Int) := by omega
      have t8 : IntKind.i64.wrap (k1 : Int) = (k1 : Int) := IntWalk.i64_in _ (by omega)
      have nk : k ≤ 60000 := by omega
      clear hk1
      by_cases hck : c = k1
      · have hdr : Hid (L.drop k1 = []) := List.drop_of_length_le (by have := HLE.out; omega)
        have hz : m0 - k1 = 0 := by omega
        subst hck
        go_upto_region 6 with fail
        refine wp_region_st 9 Nothing [(fun zv zW => ∃ zg, zv = .slice (some ⟨zg, 0, none⟩) 0 0 ∧ NewE w3 zW zv []), Is (.slice (some ad) m0 c), Is (.int .i64 (k : Int)), Is (.slice (some ad) k c), (fun zv zW => NewE w3 zW zv (L.take k)), Is (.slice (some ad) m0 c), Is (.int .i64 (k : Int)), Is (.int .i64 (c : Int)), Is (.slice (some ad) 0 0)] [] (fun _ => True) (fun _ _ => false) (by kernel_rfl) (by kernel_rfl) (by kernel_rfl) (by kernel_rfl) ⟨fun _ _ _ _ f h => by obtain ⟨g, e, hn⟩ := h; exact ⟨g, e, hn.fr0 f⟩, Is.stable _, Is.stable _, Is.stable _, fun _ _ _ _ f h => h.fr0 f, Is.stable _, Is.stable _, Is.stable _, Is.stable _, trivial⟩ trivial (fun _ _ _ _ h => h) trivial ?_ ?_
        · refine ⟨fun u w' d hf hR c k0 kM => ?_, fun u w' d hf hR c k0 kM => ?_, fun u w' d hf hR c k0 kM => ?_, fun u w' d hf hR c k0 kM => ?_, fun u w' d hf hR c k0 kM => ?_, fun u w' d hf hR c k0 kM => ?_, fun u w' d hf hR c k0 kM => ?_, fun u w' d hf hR c k0 kM => ?_, fun u w' d hf hR c k0 kM => ?_, trivial⟩
          all_goals simp only [List.take_succ_cons, List.take_zero, List.map_cons, List.map_nil, puts, Act.put, List.setIfInBounds_toArray, List.set_cons_zero, List.set_cons_succ, Nat.reduceAdd, Nat.zero_add]
          · clear hR c k0 kM
            refine .inl ⟨by kernel_rfl, ?_⟩
            refine wp_emptyRow 27 54 rfl i0 Tryd.underlying27 hi0 ?_
            intro w4 n4
            exact ⟨_, rfl, n4.fr, ⟨_, rfl, ⟨n4.own0, fun k hk => by simp [Value.ownBlock] at hk; have := hf.size; omega⟩⟩, trivial⟩
          · clear hR c k0 kM
            refine .inl ⟨by kernel_rfl, ?_⟩
            go_simp
            exact ⟨_, rfl, Fr.refl _ _, rfl, trivial⟩
          · clear hR c k0 kM
            refine .inl ⟨by kernel_rfl, ?_⟩
            go_simp
            exact ⟨_, rfl, Fr.refl _ _, rfl, trivial⟩
          · have h1 : u 1 = _ := hR 1 (by kernel_rfl)
            have h2 : u 2 = _ := hR 2 (by kernel_rfl)
            clear hR c k0 kM
            simp only [h1, h2]
            refine .inl ⟨by kernel_rfl, ?_⟩
            go_simp
            exact ⟨_, rfl, Fr.refl _ _, rfl, trivial⟩
          · obtain ⟨g0, e0, m0' ⟩ := hR 0 (by kernel_rfl)
            have h3 : u 3 = _ := hR 3 (by kernel_rfl)
            clear hR c k0 kM
            simp only [e0, h3]
            refine .inl ⟨by kernel_rfl, ?_⟩
            refine wp_appE _ _ 27 rfl 54 i0 entZ 6 72 Tryd.underlying27 hi0 hz0' hz1 hz2 rfl (by omega) g0 rfl (by have h := m0'.row; rw [e0] at h; exact h) _ (some ad) k c ((L.take k).flatMap entC) rfl ((HEL.out.fr0 (F3.out.trans hf)).take HK.out) (by have := HM6.out; have := HK.out; omega) (by have := HM6.out; have := HK.out; omega) ?_
            intro v4 w4 ho4 f4 hl4
            refine ⟨_, rfl, f4, ⟨?_, fun b hb => ?_⟩, trivial⟩
            · unfold RowE
              rw [List.length_take, show min k L.length = k by have := HLE.out; have := HK.out; omega]
              exact ho4
            · rcases hl4 b hb with rfl | h
              · exact m0'.new _ (by rw [e0]; rfl)
              · have := hf.size
                omega
          · clear hR c k0 kM
            refine .inl ⟨by kernel_rfl, ?_⟩
            go_simp
            exact ⟨_, rfl, Fr.refl _ _, rfl, trivial⟩
          · clear hR c k0 kM
            refine .inl ⟨by kernel_rfl, ?_⟩
            go_simp
            exact ⟨_, rfl, Fr.refl _ _, rfl, trivial⟩
          · have h6 : u 6 = _ := hR 6 (by kernel_rfl)
            clear hR c k0 kM
            simp only [h6]
            refine .inl ⟨by kernel_rfl, ?_⟩
            go_simp
            exact ⟨_, rfl, Fr.refl _ _, rfl, trivial⟩
          · have h5 : u 5 = _ := hR 5 (by kernel_rfl)
            have h7 : u 7 = _ := hR 7 (by kernel_rfl)
            clear hR c k0 kM
            simp only [h5, h7]
            refine .inl ⟨by kernel_rfl, ?_⟩
            go_simp
            exact ⟨_, rfl, Fr.refl _ _, rfl, trivial⟩
        · intro u w' hf hR kM
          have q4 : NewE w3 w' (u 4) (L.take k) := hR 4 (by omega)
          have e8 : u 8 = _ := hR 8 (by omega)
          clear hR kM
          obtain ⟨A4, m4, c4, e4, hm4, _⟩ := own_slice q4.row
          simp only [List.take_succ_cons, List.take_zero, List.map_cons, List.map_nil, puts, Act.put, List.setIfInBounds_toArray, List.set_cons_zero, List.set_cons_succ, List.drop_succ_cons, List.drop_zero, Nat.reduceAdd, Nat.zero_add, e4, e8]
          rw [e4] at q4
          have Q4 := Lib.hid q4
          have HF := Lib.hid hf
          clear hf q4 e4 e8
          go_wp2_with (at_builtin; refine wpList_app _ rfl _ _ 27 rfl 54 i0 entZ 6 72 Tryd.underlying27 hi0 hz0' hz1 hz2 rfl (by omega) _ _ _ rfl Q4.out.row (fun _ => True) (some ad) (0) _ ([]) rfl ⟨rfl, fun h0 => absurd h0 (by omega)⟩ (fun u hu => by cases hu) (by have := HM6.out; have := HK.out; rw [List.length_take]; omega) (by omega) ?_)
          intro v5 w5 hG5
          have NH := Q4.out.grew (M := []) HF.out (by simpa using hG5) (by simp)
          have NHH := Lib.hid NH
          clear hG5 NH
          go_wp2
          go_ret2
          refine ⟨_, 0, rfl, F3.out.trans NHH.out.2, .inl ⟨HOK.out, rfl, ?_⟩⟩
          rw [HDEL.out.1]
          have h := NHH.out.1.row
          rw [← HK1.out]
          simpa [hdr.out] using h
      · have HCK := Lib.hid hck
        go_upto_region 6 with fail
        refine wp_region_st 9 Nothing [(fun zv zW => ∃ zg, zv = .slice (some ⟨zg, 0, none⟩) 0 0 ∧ NewE w3 zW zv []), Is (.slice (some ad) m0 c), Is (.int .i64 (k : Int)), Is (.slice (some ad) k c), (fun zv zW => NewE w3 zW zv (L.take k)), Is (.slice (some ad) m0 c), Is (.int .i64 (k : Int)), Is (.int .i64 (k1 : Int)), Is (.slice (some (ad.add (k1 * 6))) (m0 - k1) (c - k1))] [] (fun _ => True) (fun _ _ => false) (by kernel_rfl) (by kernel_rfl) (by kernel_rfl) (by kernel_rfl) ⟨fun _ _ _ _ f h => by obtain ⟨g, e, hn⟩ := h; exact ⟨g, e, hn.fr0 f⟩, Is.stable _, Is.stable _, Is.stable _, fun _ _ _ _ f h => h.fr0 f, Is.stable _, Is.stable _, Is.stable _, Is.stable _, trivial⟩ trivial (fun _ _ _ _ h => h) trivial ?_ ?_
        · refine ⟨fun u w' d hf hR k1 k0 kM => ?_, fun u w' d hf hR k1 k0 kM => ?_, fun u w' d hf hR k1 k0 kM => ?_, fun u w' d hf hR k1 k0 kM => ?_, fun u w' d hf hR k1 k0 kM => ?_, fun u w' d hf hR k1 k0 kM => ?_, fun u w' d hf hR k1 k0 kM => ?_, fun u w' d hf hR k1 k0 kM => ?_, fun u w' d hf hR k1 k0 kM => ?_, trivial⟩
          all_goals simp only [List.take_succ_cons, List.take_zero, List.map_cons, List.map_nil, puts, Act.put, List.setIfInBounds_toArray, List.set_cons_zero, List.set_cons_succ, Nat.reduceAdd, Nat.zero_add]
          · clear hR k1 k0 kM
            refine .inl ⟨by kernel_rfl, ?_⟩
            refine wp_emptyRow 27 54 rfl i0 Tryd.underlying27 hi0 ?_
            intro w4 n4
            exact ⟨_, rfl, n4.fr, ⟨_, rfl, ⟨n4.own0, fun k hk => by simp [Value.ownBlock] at hk; have := hf.size; omega⟩⟩, trivial⟩
          · clear hR k1 k0 kM
            refine .inl ⟨by kernel_rfl, ?_⟩
            go_simp
            exact ⟨_, rfl, Fr.refl _ _, rfl, trivial⟩
          · clear hR k1 k0 kM
            refine .inl ⟨by kernel_rfl, ?_⟩
            go_simp
            exact ⟨_, rfl, Fr.refl _ _, rfl, trivial⟩
          · have h1 : u 1 = _ := hR 1 (by kernel_rfl)
            have h2 : u 2 = _ := hR 2 (by kernel_rfl)
            clear hR k1 k0 kM
            simp only [h1, h2]
            refine .inl ⟨by kernel_rfl, ?_⟩
            go_simp
            exact ⟨_, rfl, Fr.refl _ _, rfl, trivial⟩
          · obtain ⟨g0, e0, m0' ⟩ := hR 0 (by kernel_rfl)
            have h3 : u 3 = _ := hR 3 (by kernel_rfl)
            clear hR k1 k0 kM
            simp only [e0, h3]
            refine .inl ⟨by kernel_rfl, ?_⟩
            refine wp_appE _ _ 27 rfl 54 i0 entZ 6 72 Tryd.underlying27 hi0 hz0' hz1 hz2 rfl (by omega) g0 rfl (by have h := m0'.row; rw [e0] at h; exact h) _ (some ad) k c ((L.take k).flatMap entC) rfl ((HEL.out.fr0 (F3.out.trans hf)).take HK.out) (by have := HM6.out; have := HK.out; omega) (by have := HM6.out; have := HK.out; omega) ?_
            intro v4 w4 ho4 f4 hl4
            refine ⟨_, rfl, f4, ⟨?_, fun b hb => ?_⟩, trivial⟩
            · unfold RowE
              rw [List.length_take, show min k L.length = k by have := HLE.out; have := HK.out; omega]
              exact ho4
            · rcases hl4 b hb with rfl | h
              · exact m0'.new _ (by rw [e0]; rfl)
              · have := hf.size
                omega
          · clear hR k1 k0 kM
            refine .inl ⟨by kernel_rfl, ?_⟩
            go_simp
            exact ⟨_, rfl, Fr.refl _ _, rfl, trivial⟩
          · clear hR k1 k0 kM
            refine .inl ⟨by kernel_rfl, ?_⟩
            go_simp
            exact ⟨_, rfl, Fr.refl _ _, rfl, trivial⟩
          · have h6 : u 6 = _ := hR 6 (by kernel_rfl)
            clear hR k1 k0 kM
            simp only [h6]
            refine .inl ⟨by kernel_rfl, ?_⟩
            go_simp
            exact ⟨_, rfl, Fr.refl _ _, rfl, trivial⟩
          · have h5 : u 5 = _ := hR 5 (by kernel_rfl)
            have h7 : u 7 = _ := hR 7 (by kernel_rfl)
            clear hR k1 k0 kM
            simp only [h5, h7]
            refine .inl ⟨by kernel_rfl, ?_⟩
            go_simp
            exact ⟨_, rfl, Fr.refl _ _, rfl, trivial⟩
        · intro u w' hf hR kM
          have q4 : NewE w3 w' (u 4) (L.take k) := hR 4 (by omega)
          have e8 : u 8 = _ := hR 8 (by omega)
          clear hR kM
          obtain ⟨A4, m4, c4, e4, hm4, _⟩ := own_slice q4.row
          simp only [List.take_succ_cons, List.take_zero, List.map_cons, List.map_nil, puts, Act.put, List.setIfInBounds_toArray, List.set_cons_zero, List.set_cons_succ, List.drop_succ_cons, List.drop_zero, Nat.reduceAdd, Nat.zero_add, e4, e8]
          rw [e4] at q4
          have Q4 := Lib.hid q4
          have HF := Lib.hid hf
          clear hf q4 e4 e8
          go_wp2_with (at_builtin; refine wpList_app _ rfl _ _ 27 rfl 54 i0 entZ 6 72 Tryd.underlying27 hi0 hz0' hz1 hz2 rfl (by omega) _ _ _ rfl Q4.out.row (fun _ => True) (some (ad.add (k1 * 6))) (m0 - k1) _ ((L.drop k1).flatMap entC) rfl ((HEL.out.fr0 (F3.out.trans HF.out)).drop Z1.out) (entsC_one _) (by have := HM6.out; have := HK.out; rw [List.length_take]; omega) (by omega) ?_)
          intro v5 w5 hG5
          have hG7 : Grew 54 6 w' (.slice A4 m4 c4) w5 v5 (min k L.length + (m0 - k1)) ((L.take k).flatMap entC ++ (L.drop k1).flatMap entC) := by simpa using hG5
          have NH := Q4.out.grew (M := L.drop k1) HF.out hG7 (by simp only [List.length_take, List.length_drop]; have := HLE.out; omega)
          have NHH := Lib.hid NH
          clear hG5 NH
          go_wp2
          go_ret2
          refine ⟨_, 0, rfl, F3.out.trans NHH.out.2, .inl ⟨HOK.out, rfl, ?_⟩⟩
          rw [HDEL.out.1]
          have h := NHH.out.1.row
          rw [← HK1.out]
          simpa using h

set_option maxRecDepth 100000 in
set_option maxHeartbeats 8000000 in
theorem rGet_any (L : List Ent) (n : NameV) (rv : Value) (w : World) (hR : RowE w rv L) (hG : GoodL L) (hN : GoodN n) :
    Calls Tryd.prog 20 #[rv, .agg n.cells.toArray] w (Same' w (getV (findL n L))) := by
  obtain ⟨A, m0, c, rfl, hm0, _⟩ := own_slice hR
  obtain ⟨hlen, hel, hmc⟩ := hR.el
  clear hm0
  have HEL := Lib.hid hel
  have HR := Lib.hid hR
  have HLE := Lib.hid hlen
  have HCAP : Hid (m0 ≤ c ∧ c ≤ 9223372036854775807 ∧ (A = none → m0 = 0 ∧ c = 0)) := by
    rcases hR.form with ⟨h1, h2⟩ | ⟨g, c', h1, h2, h3⟩
    · cases h1; exact ⟨by omega, by omega, fun _ => ⟨rfl, rfl⟩⟩
    · cases h1; unfold maxLen at h3; exact ⟨h2, h3, fun h => by cases h⟩
  have hm6 : m0 ≤ 60000 := by have := hG.len; omega
  have HM6 := Lib.hid hm6
  have CF : Hid (∀ w', Fr Nothing w w' → Calls Tryd.prog 42 #[.slice A m0 c, .agg n.cells.toArray] w' (RFound w' n L)) := fun w' f => rFind_any n L A m0 c _ w' (hel.fr0 f) hm6 hN.owner hG.short
  have CK : Hid (∀ w', Calls Tryd.prog 80 #[.agg n.cells.toArray] w' (Checked w' n)) := fun w' => rCheck_any n w' hN.owner hN.text
  have HSO := Lib.hid hG.sort
  clear hR hel hG hN hlen hmc
  clear CK
  go_enter Tryd.func20, Tryd.ntmps20
  go_wp2_with (refine wpList_boxBlk rfl 40 (.tmp 1) rfl n.cells.toArray rfl ?_)
  intro w1 n1
  have F2 := Lib.hid n1.fr
  have NB0 := Lib.hid n1.blk
  clear n1
  generalize w.heap.size = gb at *
  have NB2 : Hid (Blk w1 gb 40 n.cells.toArray) := NB0.out
  clear NB0
  go_wp2_with (refine wpList_load_add rfl 40 (.tmp 3) rfl ⟨gb, 0, none⟩ rfl n.cells _ ?hcc2 Tryd.underlying40 rfl infoN (Held.go ?hold2))
  case hcc2 => exact fun j x hx => by rw [Addr.add_mid, Nat.zero_add]; exact NB2.out.cell j |>.trans (by rw [List.getElem?_toArray]; exact hx)
  unfold Held
  go_wp2_with fail
  refine (CF.out _ F2.out).mono ?_
  rintro e w3 ⟨k, b, rfl, f3, hk, hlt, hcase⟩
  have F3 := Lib.hid (F2.out.trans f3)
  have NB3 := Lib.hid (NB2.out.fr f3 (fun x => x))
  have HK : Hid (k ≤ m0) := by have := HLE.out; simp only [Hid]; omega
  have HDEL := Lib.hid (rank_del HSO.out hlt hcase)
  have HBK : Hid (b = true → k + 1 ≤ m0 ∧ ∃ x, L[k]? = some x) := fun hb => by
    rcases hcase with ⟨_, h⟩ | ⟨x, hx, _, _⟩
    · rw [hb] at h; cases h
    · have := (List.getElem?_eq_some_iff.1 hx).1
      have := HLE.out
      exact ⟨by omega, x, hx⟩
  clear f3 hk hlt hcase CF
  cases b
  · have HD : Hid (findL n L = none) := (by have h := HDEL.out.2; simp at h; exact h)
    go_wp2
    go_ret2
    rw [HD.out]
    exact ⟨rfl, F3.out⟩
  · obtain ⟨hk1, x, hx⟩ := HBK.out (by first | rfl | trivial)
    have HD : Hid (findL n L = some x.2) := (by have h := HDEL.out.2; simp [hx] at h; exact h)
    obtain ⟨ad, x', hA, hx', hc⟩ := (HEL.out.fr0 F3.out).at_ (k := k) (by omega)
    subst hA
    rw [hx] at hx'
    cases hx'
    have cv : w3.cell? { block := (ad.add (k * 6)).block, off := (ad.add (k * 6)).off + 5 } = some (.string x.2) := hc 5 _ rfl
    have t1 : (k : Int) < (m0 : Int) := by omega
    have t2 : (0 : Int) ≤ (k : Int) := by omega
    have t3 : k < m0 := by omega
    clear hc hx hk1
    go_wp2
    go_ret2
    rw [HD.out]
    exact ⟨rfl, F3.out⟩
end Go.Proofs.YtpnchdgplpdefaaDoor
