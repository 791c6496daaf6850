/- State: changes step by step; the reference's Apply (written by genSbK.py). -/
import Derived.Test.YtpnchdgplpdefaaGreatDoorEnSbH
namespace Go.Proofs.YtpnchdgplpdefaaGreatDoor
open Go.RowKit Go.Shelf
set_option maxRecDepth 100000 in
set_option maxHeartbeats 8000000 in
theorem rWithout_any (L : List Ent) (n : NameV) (rv : Value) (w : World) (hR : RowE w rv L) (hG : GoodL L) (hN : GoodN n) :
  Calls Tryz.prog 82 #[rv, .agg n.cells.toArray] w (RWithouted w L n) := by
 obtain ⟨i0, hi0, hz0', hz1, hz2⟩ := info_parts zinfoE
 obtain ⟨A, m0, c, rfl, hm0, _⟩ := own_slice hR
 obtain ⟨hlen, hel, hmc⟩ := hR.el
 clear hm0
 have HEL := Lib.hid hel
 have HR := Lib.hid hR
 have HLE := Lib.hid hlen
 have HCAP : Hid (m0 ≤ c ∧ c ≤ 9223372036854775807 ∧ (A = none → m0 = 0 ∧ c = 0)) := by
  rcases hR.form with ⟨h1, h2⟩ | ⟨g, c', h1, h2, h3⟩
  ·cases h1; exact ⟨by omega, by omega, fun _ => ⟨rfl, rfl⟩⟩
  ·cases h1; unfold maxLen at h3; exact ⟨h2, h3, fun h => by cases h⟩
 have hm6 : m0 ≤ 60000 := by have := hG.len; omega
 have HM6 := Lib.hid hm6
 have CF : Hid (∀ w', Fr Nothing w w' → Calls Tryz.prog 98 #[.slice A m0 c, .agg n.cells.toArray] w' (RFound w' n L)) := fun w' f => rFind_any n L A m0 c _ w' (hel.fr0 f) hm6 hN.owner hG.short
 have CK : Hid (∀ w', Calls Tryz.prog 65 #[.agg n.cells.toArray] w' (Checked w' n)) := fun w' => rCheck_any n w' hN.owner hN.text
 have HSO := Lib.hid hG.sort
 clear hR hel hG hN hlen hmc
 go_enter Tryz.func82, Tryz.ntmps82
 go_wp2_with (refine wpList_boxBlk rfl 57 (.tmp 1) rfl n.cells.toArray rfl ?_)
 intro w1 n1
 have F1 := Lib.hid n1.fr
 have NB0 := Lib.hid n1.blk
 clear n1
 generalize w.heap.size = gb at *
 have NB : Hid (Blk w1 gb 57 n.cells.toArray) := NB0.out
 clear NB0
 go_wp2_with (refine wpList_load_add rfl 57 (.tmp 3) rfl ⟨gb, 0, none⟩ rfl n.cells _ ?hcc1 Tryz.underlying57 rfl infoN (Held.go ?hold1))
 case hcc1 => exact fun j x hx => by rw [Addr.add_mid, Nat.zero_add]; exact NB.out.cell j |>.trans (by rw [List.getElem?_toArray]; exact hx)
 unfold Held
 go_wp2_with fail
 refine (CK.out _).mono ?_
 rintro e w2 ⟨q, rfl, hq, f2⟩
 have F2 := Lib.hid (F1.out.trans f2)
 have NB2 := Lib.hid (NB.out.fr f2 (fun x => x))
 have HQ := Lib.hid hq
 clear f2 hq NB F1 CK
 cases hok : okNm n
 ·have hq0 : q ≠ 0 := by
   have h := HQ.out
   rw [hok] at h
   exact beq_eq_false_iff_ne.1 h
  have t0 := bne0 hq0
  have HOK := Lib.hid hok
  clear hok hq0
  go_wp2
  go_ret2
  exact ⟨_, 12, rfl, F2.out, .inr ⟨HOK.out, rfl, rfl⟩⟩
 have hq0 : q = 0 := by
  have h := HQ.out
  rw [hok] at h
  exact beq_iff_eq.1 h
 subst hq0
 have HOK := Lib.hid hok
 clear hok
 go_wp2_with (refine wpList_load_add rfl 57 (.tmp 3) rfl ⟨gb, 0, none⟩ rfl n.cells _ ?hcc2 Tryz.underlying57 rfl infoN (Held.go ?hold2))
 case hcc2 => exact fun j x hx => by rw [Addr.add_mid, Nat.zero_add]; exact NB2.out.cell j |>.trans (by rw [List.getElem?_toArray]; exact hx)
 unfold Held
 go_wp2_with fail
 refine (CF.out _ F2.out).mono ?_
 rintro e w3 ⟨k, b, rfl, f3, hk, hlt, hcase⟩
 have F3 := Lib.hid (F2.out.trans f3)
 have NB3 := Lib.hid (NB2.out.fr f3 (fun x => x))
 have HK : Hid (k ≤ m0) := by have := HLE.out; simp only [Hid]; omega
 have HDEL := Lib.hid (rank_del HSO.out hlt hcase)
 have HBK : Hid (b = true → k + 1 ≤ m0 ∧ ∃ x, L[k]? = some x) := fun hb => by
  rcases hcase with ⟨_, h⟩ | ⟨x, hx, _, _⟩
  ·rw [hb] at h; cases h
  ·have := (List.getElem?_eq_some_iff.1 hx).1
   have := HLE.out
   exact ⟨by omega, x, hx⟩
 clear f3 hk hlt hcase CF
 cases b
 ·have HD : Hid (delL n L = L) := (by have h := HDEL.out.1; simp at h; exact h)
  go_wp2
  go_ret2
  refine ⟨_, 0, rfl, F3.out, .inl ⟨HOK.out, rfl, ?_⟩⟩
  rw [HD.out]
  exact HR.out.fr0 F3.out
 ·cases A with
  | none =>
   obtain ⟨rfl, rfl⟩ := HCAP.out.2.2 rfl
   exact absurd (HBK.out (by first | rfl | trivial)).1 (by omega)
  | some ad =>
   have Z1' := (HBK.out (by first | rfl | trivial)).1
   obtain ⟨k1, hk1⟩ : ∃ k1, k1 = k + 1 := ⟨_, rfl⟩
   rw [← hk1] at Z1'
   have HK1 := Lib.hid hk1
   have Z1 := Lib.hid Z1'
   have t1 : (k : Int) + 1 = (k1 : Int) := by omega
   have t2 : (k1 : Int) ≤ (m0 : Int) := by omega
   have t2' : (0 : Int) ≤ (k1 : Int) := by omega
   have t3 : m0 ≤ c := HCAP.out.1
   have t4 : (m0 : Int) ≤ (c : Int) := by omega
   have t5 : (k : Int) ≤ (c : Int) := by omega
   have t6 : k ≤ c := by omega
   have t7 : (0 : Int) ≤ (k : Int) := by omega
   have t8 : IntKind.i64.wrap (k1 : Int) = (k1 : Int) := IntWalk.i64_in _ (by omega)
   have nk : k ≤ 60000 := by omega
   clear hk1
   by_cases hck : c = k1
   ·have hdr : Hid (L.drop k1 = []) := List.drop_of_length_le (by have := HLE.out; omega)
    have hz : m0 - k1 = 0 := by omega
    subst hck
    go_upto_region 6 with fail
    refine wp_region_st 9 Nothing [(fun zv zW => ∃ zg, zv = .slice (some ⟨zg, 0, none⟩) 0 0 ∧ NewE w3 zW zv []), Is (.slice (some ad) m0 c), Is (.int .i64 (k : Int)), Is (.slice (some ad) k c), (fun zv zW => NewE w3 zW zv (L.take k)), Is (.slice (some ad) m0 c), Is (.int .i64 (k : Int)), Is (.int .i64 (c : Int)), Is (.slice (some ad) 0 0)] [] (fun _ => True) (fun _ _ => false) (by kernel_rfl) (by kernel_rfl) (by kernel_rfl) (by kernel_rfl) ⟨fun _ _ _ _ f h => by obtain ⟨g, e, hn⟩ := h; exact ⟨g, e, hn.fr0 f⟩, Is.stable _, Is.stable _, Is.stable _, fun _ _ _ _ f h => h.fr0 f, Is.stable _, Is.stable _, Is.stable _, Is.stable _, trivial⟩ trivial (fun _ _ _ _ h => h) trivial ?_ ?_
    ·refine ⟨fun u w' d hf hR c k0 kM => ?_, fun u w' d hf hR c k0 kM => ?_, fun u w' d hf hR c k0 kM => ?_, fun u w' d hf hR c k0 kM => ?_, fun u w' d hf hR c k0 kM => ?_, fun u w' d hf hR c k0 kM => ?_, fun u w' d hf hR c k0 kM => ?_, fun u w' d hf hR c k0 kM => ?_, fun u w' d hf hR c k0 kM => ?_, trivial⟩
     all_goals simp only [List.take_succ_cons, List.take_zero, List.map_cons, List.map_nil, puts, Act.put, List.setIfInBounds_toArray, List.set_cons_zero, List.set_cons_succ, Nat.reduceAdd, Nat.zero_add]
     ·clear hR c k0 kM
      refine .inl ⟨by kernel_rfl, ?_⟩
      refine wp_emptyRow 25 89 rfl i0 Tryz.underlying25 hi0 ?_
      intro w4 n4
      exact ⟨_, rfl, n4.fr, ⟨_, rfl, ⟨n4.own0, fun k hk => by simp [Value.ownBlock] at hk; have := hf.size; omega⟩⟩, trivial⟩
     ·clear hR c k0 kM
      refine .inl ⟨by kernel_rfl, ?_⟩
      go_simp
      exact ⟨_, rfl, Fr.refl _ _, rfl, trivial⟩
     ·clear hR c k0 kM
      refine .inl ⟨by kernel_rfl, ?_⟩
      go_simp
      exact ⟨_, rfl, Fr.refl _ _, rfl, trivial⟩
     ·have h1 : u 1 = _ := hR 1 (by kernel_rfl)
      have h2 : u 2 = _ := hR 2 (by kernel_rfl)
      clear hR c k0 kM
      simp only [h1, h2]
      refine .inl ⟨by kernel_rfl, ?_⟩
      go_simp
      exact ⟨_, rfl, Fr.refl _ _, rfl, trivial⟩
     ·obtain ⟨g0, e0, m0' ⟩ := hR 0 (by kernel_rfl)
      have h3 : u 3 = _ := hR 3 (by kernel_rfl)
      clear hR c k0 kM
      simp only [e0, h3]
      refine .inl ⟨by kernel_rfl, ?_⟩
      refine wp_appE _ _ 25 rfl 89 i0 entZ 6 72 Tryz.underlying25 hi0 hz0' hz1 hz2 rfl (by omega) g0 rfl (by have h := m0'.row; rw [e0] at h; exact h) _ (some ad) k c ((L.take k).flatMap entC) rfl ((HEL.out.fr0 (F3.out.trans hf)).take HK.out) (by have := HM6.out; have := HK.out; omega) (by have := HM6.out; have := HK.out; omega) ?_
      intro v4 w4 ho4 f4 hl4
      refine ⟨_, rfl, f4, ⟨?_, fun b hb => ?_⟩, trivial⟩
      ·unfold RowE
       rw [List.length_take, show min k L.length = k by have := HLE.out; have := HK.out; omega]
       exact ho4
      ·rcases hl4 b hb with rfl | h
       ·exact m0'.new _ (by rw [e0]; rfl)
       ·have := hf.size
        omega
     ·clear hR c k0 kM
      refine .inl ⟨by kernel_rfl, ?_⟩
      go_simp
      exact ⟨_, rfl, Fr.refl _ _, rfl, trivial⟩
     ·clear hR c k0 kM
      refine .inl ⟨by kernel_rfl, ?_⟩
      go_simp
      exact ⟨_, rfl, Fr.refl _ _, rfl, trivial⟩
     ·have h6 : u 6 = _ := hR 6 (by kernel_rfl)
      clear hR c k0 kM
      simp only [h6]
      refine .inl ⟨by kernel_rfl, ?_⟩
      go_simp
      exact ⟨_, rfl, Fr.refl _ _, rfl, trivial⟩
     ·have h5 : u 5 = _ := hR 5 (by kernel_rfl)
      have h7 : u 7 = _ := hR 7 (by kernel_rfl)
      clear hR c k0 kM
      simp only [h5, h7]
      refine .inl ⟨by kernel_rfl, ?_⟩
      go_simp
      exact ⟨_, rfl, Fr.refl _ _, rfl, trivial⟩
    ·intro u w' hf hR kM
     have q4 : NewE w3 w' (u 4) (L.take k) := hR 4 (by omega)
     have e8 : u 8 = _ := hR 8 (by omega)
     clear hR kM
     obtain ⟨A4, m4, c4, e4, hm4, _⟩ := own_slice q4.row
     simp only [List.take_succ_cons, List.take_zero, List.map_cons, List.map_nil, puts, Act.put, List.setIfInBounds_toArray, List.set_cons_zero, List.set_cons_succ, List.drop_succ_cons, List.drop_zero, Nat.reduceAdd, Nat.zero_add, e4, e8]
     rw [e4] at q4
     have Q4 := Lib.hid q4
     have HF := Lib.hid hf
     clear hf q4 e4 e8
     go_wp2_with (at_builtin; refine wpList_app _ rfl _ _ 25 rfl 89 i0 entZ 6 72 Tryz.underlying25 hi0 hz0' hz1 hz2 rfl (by omega) _ _ _ rfl Q4.out.row (fun _ => True) (some ad) (0) _ ([]) rfl ⟨rfl, fun h0 => absurd h0 (by omega)⟩ (fun u hu => by cases hu) (by have := HM6.out; have := HK.out; rw [List.length_take]; omega) (by omega) ?_)
     intro v5 w5 hG5
     have NH := Q4.out.grew (M := []) HF.out (by simpa using hG5) (by simp)
     have NHH := Lib.hid NH
     clear hG5 NH
     go_wp2
     go_ret2
     refine ⟨_, 0, rfl, F3.out.trans NHH.out.2, .inl ⟨HOK.out, rfl, ?_⟩⟩
     rw [HDEL.out.1]
     have h := NHH.out.1.row
     rw [← HK1.out]
     simpa [hdr.out] using h
   ·have HCK := Lib.hid hck
    go_upto_region 6 with fail
    refine wp_region_st 9 Nothing [(fun zv zW => ∃ zg, zv = .slice (some ⟨zg, 0, none⟩) 0 0 ∧ NewE w3 zW zv []), Is (.slice (some ad) m0 c), Is (.int .i64 (k : Int)), Is (.slice (some ad) k c), (fun zv zW => NewE w3 zW zv (L.take k)), Is (.slice (some ad) m0 c), Is (.int .i64 (k : Int)), Is (.int .i64 (k1 : Int)), Is (.slice (some (ad.add (k1 * 6))) (m0 - k1) (c - k1))] [] (fun _ => True) (fun _ _ => false) (by kernel_rfl) (by kernel_rfl) (by kernel_rfl) (by kernel_rfl) ⟨fun _ _ _ _ f h => by obtain ⟨g, e, hn⟩ := h; exact ⟨g, e, hn.fr0 f⟩, Is.stable _, Is.stable _, Is.stable _, fun _ _ _ _ f h => h.fr0 f, Is.stable _, Is.stable _, Is.stable _, Is.stable _, trivial⟩ trivial (fun _ _ _ _ h => h) trivial ?_ ?_
    ·refine ⟨fun u w' d hf hR k1 k0 kM => ?_, fun u w' d hf hR k1 k0 kM => ?_, fun u w' d hf hR k1 k0 kM => ?_, fun u w' d hf hR k1 k0 kM => ?_, fun u w' d hf hR k1 k0 kM => ?_, fun u w' d hf hR k1 k0 kM => ?_, fun u w' d hf hR k1 k0 kM => ?_, fun u w' d hf hR k1 k0 kM => ?_, fun u w' d hf hR k1 k0 kM => ?_, trivial⟩
     all_goals simp only [List.take_succ_cons, List.take_zero, List.map_cons, List.map_nil, puts, Act.put, List.setIfInBounds_toArray, List.set_cons_zero, List.set_cons_succ, Nat.reduceAdd, Nat.zero_add]
     ·clear hR k1 k0 kM
      refine .inl ⟨by kernel_rfl, ?_⟩
      refine wp_emptyRow 25 89 rfl i0 Tryz.underlying25 hi0 ?_
      intro w4 n4
      exact ⟨_, rfl, n4.fr, ⟨_, rfl, ⟨n4.own0, fun k hk => by simp [Value.ownBlock] at hk; have := hf.size; omega⟩⟩, trivial⟩
     ·clear hR k1 k0 kM
      refine .inl ⟨by kernel_rfl, ?_⟩
      go_simp
      exact ⟨_, rfl, Fr.refl _ _, rfl, trivial⟩
     ·clear hR k1 k0 kM
      refine .inl ⟨by kernel_rfl, ?_⟩
      go_simp
      exact ⟨_, rfl, Fr.refl _ _, rfl, trivial⟩
     ·have h1 : u 1 = _ := hR 1 (by kernel_rfl)
      have h2 : u 2 = _ := hR 2 (by kernel_rfl)
      clear hR k1 k0 kM
      simp only [h1, h2]
      refine .inl ⟨by kernel_rfl, ?_⟩
      go_simp
      exact ⟨_, rfl, Fr.refl _ _, rfl, trivial⟩
     ·obtain ⟨g0, e0, m0' ⟩ := hR 0 (by kernel_rfl)
      have h3 : u 3 = _ := hR 3 (by kernel_rfl)
      clear hR k1 k0 kM
      simp only [e0, h3]
      refine .inl ⟨by kernel_rfl, ?_⟩
      refine wp_appE _ _ 25 rfl 89 i0 entZ 6 72 Tryz.underlying25 hi0 hz0' hz1 hz2 rfl (by omega) g0 rfl (by have h := m0'.row; rw [e0] at h; exact h) _ (some ad) k c ((L.take k).flatMap entC) rfl ((HEL.out.fr0 (F3.out.trans hf)).take HK.out) (by have := HM6.out; have := HK.out; omega) (by have := HM6.out; have := HK.out; omega) ?_
      intro v4 w4 ho4 f4 hl4
      refine ⟨_, rfl, f4, ⟨?_, fun b hb => ?_⟩, trivial⟩
      ·unfold RowE
       rw [List.length_take, show min k L.length = k by have := HLE.out; have := HK.out; omega]
       exact ho4
      ·rcases hl4 b hb with rfl | h
       ·exact m0'.new _ (by rw [e0]; rfl)
       ·have := hf.size
        omega
     ·clear hR k1 k0 kM
      refine .inl ⟨by kernel_rfl, ?_⟩
      go_simp
      exact ⟨_, rfl, Fr.refl _ _, rfl, trivial⟩
     ·clear hR k1 k0 kM
      refine .inl ⟨by kernel_rfl, ?_⟩
      go_simp
      exact ⟨_, rfl, Fr.refl _ _, rfl, trivial⟩
     ·have h6 : u 6 = _ := hR 6 (by kernel_rfl)
      clear hR k1 k0 kM
      simp only [h6]
      refine .inl ⟨by kernel_rfl, ?_⟩
      go_simp
      exact ⟨_, rfl, Fr.refl _ _, rfl, trivial⟩
     ·have h5 : u 5 = _ := hR 5 (by kernel_rfl)
      have h7 : u 7 = _ := hR 7 (by kernel_rfl)
      clear hR k1 k0 kM
      simp only [h5, h7]
      refine .inl ⟨by kernel_rfl, ?_⟩
      go_simp
      exact ⟨_, rfl, Fr.refl _ _, rfl, trivial⟩
    ·intro u w' hf hR kM
     have q4 : NewE w3 w' (u 4) (L.take k) := hR 4 (by omega)
     have e8 : u 8 = _ := hR 8 (by omega)
     clear hR kM
     obtain ⟨A4, m4, c4, e4, hm4, _⟩ := own_slice q4.row
     simp only [List.take_succ_cons, List.take_zero, List.map_cons, List.map_nil, puts, Act.put, List.setIfInBounds_toArray, List.set_cons_zero, List.set_cons_succ, List.drop_succ_cons, List.drop_zero, Nat.reduceAdd, Nat.zero_add, e4, e8]
     rw [e4] at q4
     have Q4 := Lib.hid q4
     have HF := Lib.hid hf
     clear hf q4 e4 e8
     go_wp2_with (at_builtin; refine wpList_app _ rfl _ _ 25 rfl 89 i0 entZ 6 72 Tryz.underlying25 hi0 hz0' hz1 hz2 rfl (by omega) _ _ _ rfl Q4.out.row (fun _ => True) (some (ad.add (k1 * 6))) (m0 - k1) _ ((L.drop k1).flatMap entC) rfl ((HEL.out.fr0 (F3.out.trans HF.out)).drop Z1.out) (entsC_one _) (by have := HM6.out; have := HK.out; rw [List.length_take]; omega) (by omega) ?_)
     intro v5 w5 hG5
     have hG7 : Grew 89 6 w' (.slice A4 m4 c4) w5 v5 (min k L.length + (m0 - k1)) ((L.take k).flatMap entC ++ (L.drop k1).flatMap entC) := by simpa using hG5
     have NH := Q4.out.grew (M := L.drop k1) HF.out hG7 (by simp only [List.length_take, List.length_drop]; have := HLE.out; omega)
     have NHH := Lib.hid NH
     clear hG5 NH
     go_wp2
     go_ret2
     refine ⟨_, 0, rfl, F3.out.trans NHH.out.2, .inl ⟨HOK.out, rfl, ?_⟩⟩
     rw [HDEL.out.1]
     have h := NHH.out.1.row
     rw [← HK1.out]
     simpa using h
end Go.Proofs.YtpnchdgplpdefaaGreatDoor
namespace Go.Proofs.YtpnchdgplpdefaaGreatDoor
open Go.RowKit Go.Shelf
def nextC (c : CV) (L : List Ent) : List Ent := if c.absent then delL c.nm L else insL c.nm c.value L
def runC (xs : List CV) (L : List Ent) : List Ent := xs.foldl (fun l c => nextC c l) L
def stepC (c : CV) (L : List Ent) : List Ent := if okNm c.nm then nextC c L else L
structure SmallC (c : CV) : Prop where
 owner : c.nm.owner.size ≤ 100
 text : c.nm.text.size ≤ 100
 value : c.value.size ≤ 200
structure GoodK (k : Nat) (L : List Ent) : Prop where
 sort : SortL L
 len : L.length ≤ k
 ok : ∀ x ∈ L, okNm x.1 = true
 owner : ∀ x ∈ L, x.1.owner.size ≤ 100
 text : ∀ x ∈ L, x.1.text.size ≤ 100
 value : ∀ x ∈ L, x.2.size ≤ 200
theorem GoodK.nil : GoodK 0 [] := ⟨List.Pairwise.nil, Nat.le_refl _, (fun _ h => by cases h), (fun _ h => by cases h), (fun _ h => by cases h), (fun _ h => by cases h)⟩
theorem bytesL_le : ∀ L : List Ent, (∀ x ∈ L, x.2.size ≤ 200) → bytesL L ≤ 200 * L.length
 | [], _ => by simp [bytesL]
 | x :: L, h => by
  have h1 := bytesL_le L (fun y hy => h y (List.mem_cons_of_mem _ hy))
  have h2 := h x (List.mem_cons_self ..)
  simp only [bytesL, List.map_cons, List.sum_cons, List.length_cons] at h1 ⊢
  omega
theorem GoodK.good {k : Nat} {L : List Ent} (h : GoodK k L) (hk : k ≤ 60000) : GoodL L :=
 ⟨h.sort, fun x hx => by have := h.owner x hx; omega, by have := h.len; omega, by have := bytesL_le L h.value; have := h.len; omega, h.ok⟩
theorem GoodK.more {k k' : Nat} {L : List Ent} (h : GoodK k L) (hk : k ≤ k') : GoodK k' L := ⟨h.sort, by have := h.len; omega, h.ok, h.owner, h.text, h.value⟩
theorem GoodK.next {k : Nat} {L : List Ent} {c : CV} (h : GoodK k L) (hc : SmallC c) (ho : okNm c.nm = true) : GoodK (k + 1) (nextC c L) := by
 unfold nextC
 cases c.absent
 ·rw [if_neg (by decide)]
  have hm := (insL_sort (nm := c.nm) (v := c.value) h.sort).2
  refine ⟨(insL_sort h.sort).1, by have := (insL_size (nm := c.nm) (v := c.value) L).1; have := h.len; omega, fun x hx => ?_, fun x hx => ?_, fun x hx => ?_, fun x hx => ?_⟩
  ·rcases hm x hx with rfl | h1
   ·exact ho
   ·exact h.ok x h1
  ·rcases hm x hx with rfl | h1
   ·exact hc.owner
   ·exact h.owner x h1
  ·rcases hm x hx with rfl | h1
   ·exact hc.text
   ·exact h.text x h1
  ·rcases hm x hx with rfl | h1
   ·exact hc.value
   ·exact h.value x h1
 ·rw [if_pos rfl]
  have hm := (delL_sub (nm := c.nm) L).subset
  exact ⟨delL_sort h.sort, by have := (delL_size (nm := c.nm) L).1; have := h.len; omega, fun x hx => h.ok x (hm hx), fun x hx => h.owner x (hm hx), fun x hx => h.text x (hm hx), fun x hx => h.value x (hm hx)⟩
theorem GoodK.step {k : Nat} {L : List Ent} {c : CV} (h : GoodK k L) (hc : SmallC c) : GoodK (k + 1) (stepC c L) := by
 unfold stepC
 cases ho : okNm c.nm
 ·exact h.more (by omega)
 ·exact h.next hc ho
theorem SmallC.name {c : CV} (h : SmallC c) : GoodN c.nm := ⟨by have := h.owner; omega, by have := h.text; omega⟩
theorem cutS_size (s : ByteArray) (k : Nat) : (cutS s (k : Int)).size ≤ k := by
 rw [cutS, ByteArray.size_extract]
 omega
theorem CV.cut_small (c : CV) : SmallC c.cut := ⟨cutS_size _ 100, cutS_size _ 100, cutS_size _ 200⟩
theorem runC_take {xs : List CV} {k : Nat} {c : CV} (h : xs[k]? = some c) (L : List Ent) : runC (xs.take (k + 1)) L = nextC c (runC (xs.take k) L) := by
 rw [runC, List.take_add_one, h, Option.toList_some, List.foldl_append]
 rfl
def RApplied (w : World) (L : List Ent) (xs : List CV) (e : Ending) (w' : World) : Prop := ∃ p k, e = .returned (.tuple #[p, .int .i64 k]) ∧ Fr Nothing w w' ∧
 (((∀ c ∈ xs, okNm c.nm = true) ∧ k = 0 ∧ RowE w' p (runC xs L)) ∨ ((∃ c ∈ xs, okNm c.nm = false) ∧ k = 12 ∧ p = .slice none 0 0))
def RInv (w : World) (L : List Ent) (xs : List CV) (n m : Nat) (l i : Value) (wr : World) : Prop := ∃ k : Nat, k ≤ n ∧ i = .int .i64 (k : Int) ∧ RowE wr l (runC (xs.take k) L) ∧ GoodK (m + k) (runC (xs.take k) L) ∧ (∀ c ∈ xs.take k, okNm c.nm = true) ∧ Fr Nothing w wr
set_option maxRecDepth 100000 in
set_option maxHeartbeats 4000000 in
theorem rApply_any (L : List Ent) (xs : List CV) (n m : Nat) (A : Option Addr) (c0 : Nat) (S : Nat → Prop) (rv : Value) (w : World) (hR : RowE w rv L) (hG : GoodK m L) (hD : CL w S A n xs) (hX : ∀ c ∈ xs, SmallC c) (hm : m + n ≤ 60000) :
  Calls Tryz.prog 49 #[rv, .slice A n c0] w (RApplied w L xs) := by
 have HD := Lib.hid hD
 have HX := Lib.hid hX
 have HL := Lib.hid hD.len
 have HS : Hid (RInv w L xs n m rv (.int .i64 0) w) := ⟨0, by omega, rfl, hR, hG, (fun c hc => by simp at hc), Fr.refl _ _⟩
 clear hD hX hR hG
 go_enter Tryz.func49, Tryz.ntmps49
 go_wp2
 go_loopw [0, 6] (fun l i wr => RInv w L xs n m l i wr) (fun _ i _ => n - (intOf i).toNat)
 case atStart => exact HS.out
 case round =>
  obtain ⟨k, hk, rfl, hR, hG, hO, hF⟩ := hrel
  have FR := Lib.hid hF
  have RR := Lib.hid hR
  have GG := Lib.hid hG
  have OO := Lib.hid hO
  obtain ⟨A1, n1, c1, rfl, H1, _⟩ := own_slice hR
  clear hR hG hO hF HS
  by_cases hlt : k < n
  ·have hI : (k : Int) < (n : Int) := by omega
   have hI0 : (0 : Int) ≤ (k : Int) := by omega
   have t0 : decide ((k : Int) < (n : Int)) = true := decide_eq_true hI
   obtain ⟨ad, c, rfl, hc, hcell⟩ := (HD.out.fr0 FR.out).at_ hlt
   have HCE := Lib.hid hcell
   have CO := Lib.hid c.one
   have HT := Lib.hid (runC_take hc L)
   have SC : Hid (SmallC c) := HX.out c (List.mem_of_getElem? hc)
   have HCM : Hid (xs[k]? = some c) := hc
   have GL : Hid (GoodL (runC (xs.take k) L)) := GG.out.good (by omega)
   generalize runC (xs.take k) L = Lk at *
   clear hcell hc
   go_wp2_with (refine wpList_load_add rfl 59 (.tmp 18) rfl _ rfl c.cells _ ?hcc Tryz.underlying59 rfl infoC (Held.go ?hold))
   case hcc => exact HCE.out
   unfold Held
   go_wp2_with (refine wpList_allocBlk rfl 59 rfl zeroC zvC #[.int .i64 0, .string ByteArray.empty, .int .i64 0, .int .i64 0, .string ByteArray.empty, .string ByteArray.empty, .bool false] rfl ?_)
   intro wa na
   have NA := Lib.hid na
   clear na
   generalize hg7 : wr.heap.size = g7 at *
   have HG7 := Lib.hid hg7
   clear hg7
   have BA : Hid (Blk wa g7 59 #[.int .i64 0, .string ByteArray.empty, .int .i64 0, .int .i64 0, .string ByteArray.empty, .string ByteArray.empty, .bool false]) := by have h := NA.out.blk; rw [HG7.out] at h; exact h
   go_wp2_with (refine wpList_storeBlk rfl 59 (.tmp 7) _ rfl g7 c.cells.toArray rfl rfl _ _ BA.out infoC rfl CO.out ?_)
   intro wb bb fb
   have B6 : Hid (Blk wb g7 59 c.cells.toArray) := bb
   have FB : Hid (Fr Nothing wr wb) := NA.out.fr.then_ fb (fun i hi e => by have e' : i = g7 := e; have := HG7.out; omega)
   clear bb fb NA BA HCE
   have RB : Hid (RowE wb (.slice A1 n1 c1) Lk) := RR.out.fr0 FB.out
   have cA : wb.cell? { block := g7, off := 6 } = some (.bool c.absent) := B6.out.cell 6
   have cV : wb.cell? { block := g7, off := 5 } = some (.string c.value) := B6.out.cell 5
   have CN : Hid (∀ j x, c.nm.cells[j]? = some x → wb.cell? ((⟨g7, 0, none⟩ : Addr).add j) = some x) := fun j x hx => by
    rw [Addr.add_mid, Nat.zero_add, B6.out.cell j, List.getElem?_toArray, CV.cells, List.getElem?_append_left (List.getElem?_eq_some_iff.1 hx).1]
    exact hx
   have FW : Hid (Fr Nothing w wb) := FR.out.trans FB.out
   cases hab : c.absent
   ·rw [hab] at cA
    have HN : Hid (nextC c Lk = insL c.nm c.value Lk) := by simp only [Hid, nextC, hab]; rfl
    have CW : Hid (∀ w', Fr Nothing wb w' → Calls Tryz.prog 83 #[.slice A1 n1 c1, .agg c.nm.cells.toArray, .string c.value] w' (RWithed w' Lk c.nm c.value)) := fun w' f => rWith_any _ _ _ _ _ (RB.out.fr0 f) GL.out SC.out.name
    have HV : Hid (c.value.size ≤ 65536) := by have := SC.out.value; simp only [Hid]; omega
    clear hab
    go_wp2_with (refine wpList_load_add rfl 57 (.tmp 32) rfl ⟨g7, 0, none⟩ rfl c.nm.cells _ ?hcn Tryz.underlying57 rfl infoN (Held.go ?hold2))
    case hcn => exact CN.out
    unfold Held
    go_wp2_with fail
    refine (CW.out _ (Fr.refl _ _)).mono ?_
    rintro e w3 ⟨p, q, rfl, f3, hcase⟩
    have F3 : Hid (Fr Nothing w w3) := FW.out.trans f3
    cases hok : okNm c.nm
    ·obtain ⟨rfl, rfl⟩ : q = 12 ∧ p = .slice none 0 0 := by
      rcases hcase with ⟨h, _⟩ | ⟨_, h⟩ | ⟨h, _⟩
      ·rw [hok] at h; cases h
      ·exact h
      ·rw [hok] at h; cases h
     have HOK := Lib.hid hok
     clear hcase hok f3
     go_wp2
     go_ret2
     exact ⟨_, 12, rfl, F3.out, .inr ⟨⟨c, List.mem_of_getElem? HCM.out, HOK.out⟩, rfl, rfl⟩⟩
    ·obtain ⟨rfl, hp⟩ : q = 0 ∧ RowE w3 p (nextC c Lk) := by
      rw [HN.out]
      rcases hcase with ⟨_, _, h⟩ | ⟨h, _⟩ | ⟨_, h, _⟩
      ·exact h
      ·rw [hok] at h; cases h
      ·exact absurd HV.out (by omega)
     have HOK := Lib.hid hok
     have HP := Lib.hid hp
     clear hcase hok f3 hp
     go_wp2
     go_roundw
     case rel =>
      refine ⟨k + 1, by omega, by go_num, ?_, ?_, fun x hx => ?_, F3.out⟩
      ·rw [HT.out]; exact HP.out
      ·rw [HT.out]; exact (GG.out.next SC.out HOK.out).more (by omega)
      ·rw [List.take_add_one, HCM.out, Option.toList_some, List.mem_append, List.mem_singleton] at hx
       rcases hx with hx | rfl
       ·exact OO.out x hx
       ·exact HOK.out
     case measure => simp [intOf]; omega
   ·rw [hab] at cA
    have HN : Hid (nextC c Lk = delL c.nm Lk) := by simp only [Hid, nextC, hab]; rfl
    have CW : Hid (∀ w', Fr Nothing wb w' → Calls Tryz.prog 82 #[.slice A1 n1 c1, .agg c.nm.cells.toArray] w' (RWithouted w' Lk c.nm)) := fun w' f => rWithout_any _ _ _ _ (RB.out.fr0 f) GL.out SC.out.name
    clear hab
    go_wp2_with (refine wpList_load_add rfl 57 (.tmp 25) rfl ⟨g7, 0, none⟩ rfl c.nm.cells _ ?hcn2 Tryz.underlying57 rfl infoN (Held.go ?hold3))
    case hcn2 => exact CN.out
    unfold Held
    go_wp2_with fail
    refine (CW.out _ (Fr.refl _ _)).mono ?_
    rintro e w3 ⟨p, q, rfl, f3, hcase⟩
    have F3 : Hid (Fr Nothing w w3) := FW.out.trans f3
    cases hok : okNm c.nm
    ·obtain ⟨rfl, rfl⟩ : q = 12 ∧ p = .slice none 0 0 := by
      rcases hcase with ⟨h, _⟩ | ⟨_, h⟩
      ·rw [hok] at h; cases h
      ·exact h
     have HOK := Lib.hid hok
     clear hcase hok f3
     go_wp2
     go_ret2
     exact ⟨_, 12, rfl, F3.out, .inr ⟨⟨c, List.mem_of_getElem? HCM.out, HOK.out⟩, rfl, rfl⟩⟩
    ·obtain ⟨rfl, hp⟩ : q = 0 ∧ RowE w3 p (nextC c Lk) := by
      rw [HN.out]
      rcases hcase with ⟨_, h⟩ | ⟨h, _⟩
      ·exact h
      ·rw [hok] at h; cases h
     have HOK := Lib.hid hok
     have HP := Lib.hid hp
     clear hcase hok f3 hp
     go_wp2
     go_roundw
     case rel =>
      refine ⟨k + 1, by omega, by go_num, ?_, ?_, fun x hx => ?_, F3.out⟩
      ·rw [HT.out]; exact HP.out
      ·rw [HT.out]; exact (GG.out.next SC.out HOK.out).more (by omega)
      ·rw [List.take_add_one, HCM.out, Option.toList_some, List.mem_append, List.mem_singleton] at hx
       rcases hx with hx | rfl
       ·exact OO.out x hx
       ·exact HOK.out
     case measure => simp [intOf]; omega
  ·obtain rfl : k = n := by omega
   have t0 : decide ((k : Int) < (k : Int)) = false := decide_eq_false (by omega)
   go_wp2
   go_ret2
   have hx : xs.take k = xs := List.take_of_length_le (by have := HL.out; omega)
   rw [hx] at RR OO
   exact ⟨_, 0, rfl, FR.out, .inl ⟨OO.out, rfl, RR.out⟩⟩
end Go.Proofs.YtpnchdgplpdefaaGreatDoor
