/- State: With, Without, Get (written by genSbC.py). -/
import Derived.Test.YtpnchdgplpdefaaGreatDoorEnSbB
namespace Go.Proofs.YtpnchdgplpdefaaGreatDoor
open Go.RowKit Go.Shelf
def StL (w : World) (s : Nat) (L : List Ent) : Prop := ∃ t, StH w s t ∧ t.toL = L
theorem StL.fr0 {w w' : World} {s : Nat} {L : List Ent} (h : StL w s L) (hf : Fr Nothing w w') : StL w' s L := by
 obtain ⟨t, h1, h2⟩ := h
 exact ⟨t, h1.fr0 hf, h2⟩
structure GoodL (L : List Ent) : Prop where
 sort : SortL L
 short : OwnS L
 len : L.length ≤ 60000
 bytes : bytesL L ≤ 1099511500000
 ok : ∀ x ∈ L, okNm x.1 = true
structure GoodN (n : NameV) : Prop where
 owner : n.owner.size ≤ 1099511627776
 text : n.text.size ≤ 1099511627776
theorem delL_none {nm : NameV} : ∀ {L : List Ent}, findL nm L = none → delL nm L = L
 | [], _ => rfl
 | y :: L, h => by
  rw [findL] at h
  split at h
  ·cases h
  ·rename_i e
   rw [delL, if_neg e, delL_none h]
def nodeN (n : NameV) (v : ByteArray) : Array Value := ([Value.pointer none, Value.pointer none] ++ n.cells ++ [Value.string v, Value.int .i64 0, Value.int .i64 0, Value.int .i64 0]).toArray
set_option maxRecDepth 100000 in
theorem built_nodeN (n : NameV) (v : ByteArray) : Tryz.prog.built 69 [(2, .agg n.cells.toArray), (3, .string v)] = some (nodeN n v) := by kernel_rfl
def Withed (w : World) (L : List Ent) (n : NameV) (v : ByteArray) (e : Ending) (w' : World) : Prop := ∃ p k, e = .returned (.tuple #[.pointer p, .int .i64 k]) ∧ Fr Nothing w w' ∧
 ((okNm n = true ∧ v.size ≤ 65536 ∧ k = 0 ∧ ∃ s', p = some ⟨s', 0, none⟩ ∧ StL w' s' (insL n v L)) ∨ (okNm n = false ∧ k = 12 ∧ p = none) ∨ (okNm n = true ∧ 65536 < v.size ∧ k = 5 ∧ p = none))
def Withouted (w : World) (L : List Ent) (n : NameV) (e : Ending) (w' : World) : Prop := ∃ p k, e = .returned (.tuple #[.pointer p, .int .i64 k]) ∧ Fr Nothing w w' ∧
 ((okNm n = true ∧ k = 0 ∧ ∃ s', p = some ⟨s', 0, none⟩ ∧ StL w' s' (delL n L)) ∨ (okNm n = false ∧ k = 12 ∧ p = none))
def getV (o : Option ByteArray) : Value := match o with
 | some v => .tuple #[.string v, .bool true]
 | none => .tuple #[.string ByteArray.empty, .bool false]
set_option maxRecDepth 100000 in
set_option maxHeartbeats 4000000 in
theorem With_any (L : List Ent) (n : NameV) (v : ByteArray) (s : Nat) (w : World) (hS : StL w s L) (hU : UsaT w) (hG : GoodL L) (hN : GoodN n) :
  Calls Tryz.prog 14 #[.pointer (some ⟨s, 0, none⟩), .agg n.cells.toArray, .string v] w (Withed w L n v) := by
 obtain ⟨t, hS, htl⟩ := hS
 have HS := Lib.hid hS
 have HTL := Lib.hid htl
 have CK : Hid (∀ w', Fr Nothing w w' → Calls Tryz.prog 44 #[.agg n.cells.toArray] w' (Checked w' n)) := fun w' hf => Check_any n w' (hU.fr0 hf) hN.owner hN.text
 have BN := Lib.hid (built_nodeN n v)
 obtain ⟨a, hb, hn⟩ := hS
 have R00 : Hid (w.cell? ⟨s, 0, none⟩ = some (.pointer a)) := hb.cell 0
 have HNH := Lib.hid hn
 have HG := Lib.hid hG
 have HN := Lib.hid hN
 clear hb hn hU hG hN htl
 go_enter Tryz.func14, Tryz.ntmps14
 go_wp2_with (refine wpList_boxBlk rfl 44 (.tmp 1) rfl n.cells.toArray rfl ?_)
 intro w1 n1
 have F1 := Lib.hid n1.fr
 have NB0 := Lib.hid n1.blk
 clear n1
 generalize w.heap.size = gb at *
 have NB : Hid (Blk w1 gb 44 n.cells.toArray) := NB0.out
 clear NB0
 go_wp2_with (refine wpList_load_add rfl 44 (.tmp 4) rfl ⟨gb, 0, none⟩ rfl n.cells _ ?hcc Tryz.underlying44 rfl infoName (Held.go ?hold))
 case hcc => exact fun j x hx => by rw [Addr.add_mid, Nat.zero_add]; exact NB.out.cell j |>.trans (by rw [List.getElem?_toArray]; exact hx)
 unfold Held
 go_wp2_with fail
 refine (CK.out _ F1.out).mono ?_
 rintro e w2 ⟨k, rfl, hk, f2⟩
 have F2 := Lib.hid (F1.out.trans f2)
 have NB2 := Lib.hid (NB.out.fr f2 (fun x => x))
 have HK := Lib.hid hk
 clear f2 NB hk
 cases hok : okNm n
 ·have hk0 : k ≠ 0 := by
   have h := HK.out
   rw [hok] at h
   intro e
   subst e
   simp at h
  have t0 := bne0 hk0
  have HOK := Lib.hid hok
  clear hok hk0
  go_wp2
  go_ret2
  exact ⟨none, 12, rfl, F2.out, .inr (.inl ⟨HOK.out, rfl, rfl⟩)⟩
 ·have hk0 : k = 0 := by
   have h := HK.out
   rw [hok] at h
   simpa using h
  subst hk0
  have HOK := Lib.hid hok
  clear hok
  by_cases hv : v.size ≤ 65536
  ·have tv : decide ((65536 : Int) < (v.size : Int)) = false := decide_eq_false (by omega)
   have HV := Lib.hid hv
   obtain ⟨z, hz⟩ : ∃ z : Int, z = (t.size : Nat) := ⟨_, rfl⟩
   have tz : decide ((65536 : Int) ≤ z) = false := decide_eq_false (by have h := HG.out.len; rw [← HTL.out, Tr.toL_length] at h; omega)
   have CL : Hid (∀ w', Fr Nothing w2 w' → Calls Tryz.prog 22 #[.pointer (some ⟨s, 0, none⟩)] w' (SameW w' (.int .i64 z))) := fun w' hf => by
    rw [hz]
    exact Len_any w' s t (HS.out.fr0 (F2.out.trans hf))
   have CW : Hid (∀ w' g, Fr Nothing w2 w' → Mid w' g n v → Calls Tryz.prog 46 #[.pointer a, .pointer (some ⟨g, 0, none⟩)] w' (Balanced w' (insL n v t.toL))) := fun w' g hf hm =>
    with_any n v g HN.out.owner t a w' (HNH.out.fr0 (F2.out.trans hf)) hm (by rw [HTL.out]; exact HG.out.sort) (by rw [HTL.out]; exact HG.out.short) (by have h := HG.out.len; rw [← HTL.out, Tr.toL_length] at h; omega) (by have h := HG.out.bytes; rw [← HTL.out, ← Tr.bytes_toL] at h; omega)
   clear hv hz
   go_upto_region 7 with fail
   refine wp_region_st 13 Nothing [Is (.pointer (some ⟨s, 0, none⟩)), Is (.int .i64 z), Is (.bool false), Is (.bool false), Is (undef), Is (undef), Is (undef), Is (undef), Is (undef), Is (undef), Is (undef), Is (.bool false), Is (.bool false)] [] (fun _ => True) (fun _ _ => false) (by kernel_rfl) (by kernel_rfl) (by kernel_rfl) (by kernel_rfl) ⟨Is.stable _, Is.stable _, Is.stable _, Is.stable _, Is.stable _, Is.stable _, Is.stable _, Is.stable _, Is.stable _, Is.stable _, Is.stable _, Is.stable _, Is.stable _, trivial⟩ trivial (fun _ _ _ _ h => h) trivial ?_ ?_
   ·refine ⟨fun u w' d hf hR k1 k0 kM => ?_, fun u w' d hf hR k1 k0 kM => ?_, fun u w' d hf hR k1 k0 kM => ?_, fun u w' d hf hR k1 k0 kM => ?_, fun u w' d hf hR k1 k0 kM => ?_, fun u w' d hf hR k1 k0 kM => ?_, fun u w' d hf hR k1 k0 kM => ?_, fun u w' d hf hR k1 k0 kM => ?_, fun u w' d hf hR k1 k0 kM => ?_, fun u w' d hf hR k1 k0 kM => ?_, fun u w' d hf hR k1 k0 kM => ?_, fun u w' d hf hR k1 k0 kM => ?_, fun u w' d hf hR k1 k0 kM => ?_, trivial⟩
    all_goals simp only [List.take_succ_cons, List.take_zero, List.map_cons, List.map_nil, puts, Act.put, List.setIfInBounds_toArray, List.set_cons_zero, List.set_cons_succ, Nat.reduceAdd, Nat.zero_add]
    ·clear hR k1 k0 kM
     refine .inl ⟨by kernel_rfl, ?_⟩
     go_simp
     exact ⟨_, rfl, Fr.refl _ _, rfl, trivial⟩
    ·have h0 : u 0 = _ := hR 0 (by kernel_rfl)
     clear hR k1 k0 kM
     simp only [h0]
     refine .inl ⟨by kernel_rfl, ?_⟩
     go_simp
     refine (CL.out _ hf).mono ?_
     rintro e w4 ⟨rfl, rfl⟩
     exact ⟨_, rfl, Fr.refl _ _, rfl, trivial⟩
    ·have h1 : u 1 = _ := hR 1 (by kernel_rfl)
     clear hR k1 k0 kM
     simp only [h1]
     refine .inl ⟨by kernel_rfl, ?_⟩
     go_simp
     exact ⟨_, rfl, Fr.refl _ _, rfl, trivial⟩
    ·have h2 : u 2 = _ := hR 2 (by kernel_rfl)
     clear hR k1 k0 kM
     simp only [h2]
     refine .inl ⟨by kernel_rfl, ?_⟩
     go_simp
     exact ⟨_, rfl, Fr.refl _ _, rfl, trivial⟩
    ·have h3 : u 3 = _ := hR 3 (by kernel_rfl)
     clear hR k1 k0 kM
     simp only [h3]
     exact .inr ⟨by kernel_rfl, _, rfl, Fr.refl _ _, rfl, trivial⟩
    ·have h3 : u 3 = _ := hR 3 (by kernel_rfl)
     clear hR k1 k0 kM
     simp only [h3]
     exact .inr ⟨by kernel_rfl, _, rfl, Fr.refl _ _, rfl, trivial⟩
    ·have h3 : u 3 = _ := hR 3 (by kernel_rfl)
     clear hR k1 k0 kM
     simp only [h3]
     exact .inr ⟨by kernel_rfl, _, rfl, Fr.refl _ _, rfl, trivial⟩
    ·have h3 : u 3 = _ := hR 3 (by kernel_rfl)
     clear hR k1 k0 kM
     simp only [h3]
     exact .inr ⟨by kernel_rfl, _, rfl, Fr.refl _ _, rfl, trivial⟩
    ·have h3 : u 3 = _ := hR 3 (by kernel_rfl)
     clear hR k1 k0 kM
     simp only [h3]
     exact .inr ⟨by kernel_rfl, _, rfl, Fr.refl _ _, rfl, trivial⟩
    ·have h3 : u 3 = _ := hR 3 (by kernel_rfl)
     clear hR k1 k0 kM
     simp only [h3]
     exact .inr ⟨by kernel_rfl, _, rfl, Fr.refl _ _, rfl, trivial⟩
    ·have h3 : u 3 = _ := hR 3 (by kernel_rfl)
     clear hR k1 k0 kM
     simp only [h3]
     exact .inr ⟨by kernel_rfl, _, rfl, Fr.refl _ _, rfl, trivial⟩
    ·have h3 : u 3 = _ := hR 3 (by kernel_rfl)
     have h10 : u 10 = _ := hR 10 (by kernel_rfl)
     clear hR k1 k0 kM
     simp only [h3, h10]
     refine .inl ⟨by kernel_rfl, ?_⟩
     go_simp
     exact ⟨_, rfl, Fr.refl _ _, rfl, trivial⟩
    ·have h11 : u 11 = _ := hR 11 (by kernel_rfl)
     clear hR k1 k0 kM
     simp only [h11]
     refine .inl ⟨by kernel_rfl, ?_⟩
     go_simp
     exact ⟨_, rfl, Fr.refl _ _, rfl, trivial⟩
   ·intro u w' hf hR kM
    have k12 : u 12 = _ := hR 12 (by omega)
    clear hR kM
    simp only [List.take_succ_cons, List.take_zero, List.map_cons, List.map_nil, puts, Act.put, List.setIfInBounds_toArray, List.set_cons_zero, List.set_cons_succ, List.drop_succ_cons, List.drop_zero, Nat.reduceAdd, Nat.zero_add, k12]
    have F3 := Lib.hid hf
    have NB3 := Lib.hid (NB2.out.fr hf (fun x => x))
    clear hf k12
    go_upto_region 9 with fail
    refine wp_region_st 9 Nothing [Is (.pointer (some ⟨s, 0, none⟩)), Is (.pointer (some ⟨s, 0, none⟩)), Is (.pointer (some ⟨s, 0, none⟩)), Is (.pointer a), Is (.agg n.cells.toArray), Is (.string v), Is (.agg (nodeN n v)), (fun zv zW => ∃ zg, zv = .pointer (some ⟨zg, 0, none⟩) ∧ Mid zW zg n v), (fun zv zW => NodL zW zv (insL n v t.toL))] [] (fun _ => True) (fun _ _ => false) (by kernel_rfl) (by kernel_rfl) (by kernel_rfl) (by kernel_rfl) ⟨Is.stable _, Is.stable _, Is.stable _, Is.stable _, Is.stable _, Is.stable _, Is.stable _, fun _ _ _ _ hf h => by obtain ⟨g, h, hb⟩ := h; exact ⟨g, h, hb.fr0 hf⟩, fun v w1 w2 _ f h => by obtain ⟨a, t, e, hn, hl⟩ := h; exact ⟨a, t, e, hn.fr0 f, hl⟩, trivial⟩ trivial (fun _ _ _ _ h => h) trivial ?_ ?_
    ·refine ⟨fun u w' d hf hR k1 k0 kM => ?_, fun u w' d hf hR k1 k0 kM => ?_, fun u w' d hf hR k1 k0 kM => ?_, fun u w' d hf hR k1 k0 kM => ?_, fun u w' d hf hR k1 k0 kM => ?_, fun u w' d hf hR k1 k0 kM => ?_, fun u w' d hf hR k1 k0 kM => ?_, fun u w' d hf hR k1 k0 kM => ?_, fun u w' d hf hR k1 k0 kM => ?_, trivial⟩
     all_goals simp only [List.take_succ_cons, List.take_zero, List.map_cons, List.map_nil, puts, Act.put, List.setIfInBounds_toArray, List.set_cons_zero, List.set_cons_succ, Nat.reduceAdd, Nat.zero_add]
     ·clear hR k1 k0 kM
      refine .inl ⟨by kernel_rfl, ?_⟩
      go_simp
      exact ⟨_, rfl, Fr.refl _ _, rfl, trivial⟩
     ·have h0 : u 0 = _ := hR 0 (by kernel_rfl)
      clear hR k1 k0 kM
      simp only [h0]
      refine .inl ⟨by kernel_rfl, ?_⟩
      go_simp
      exact ⟨_, rfl, Fr.refl _ _, rfl, trivial⟩
     ·have h1 : u 1 = _ := hR 1 (by kernel_rfl)
      clear hR k1 k0 kM
      simp only [h1]
      refine .inl ⟨by kernel_rfl, ?_⟩
      go_simp
      exact ⟨_, rfl, Fr.refl _ _, rfl, trivial⟩
     ·have h2 : u 2 = _ := hR 2 (by kernel_rfl)
      clear hR k1 k0 kM
      simp only [h2]
      refine .inl ⟨by kernel_rfl, ?_⟩
      have q := hf.cellSome ((F2.out.trans F3.out).cellSome R00.out (fun x => x)) (fun x => x)
      go_simp
      exact ⟨_, rfl, Fr.refl _ _, rfl, trivial⟩
     ·clear hR k1 k0 kM
      refine .inl ⟨by kernel_rfl, ?_⟩
      exact wp_load_add _ _ rfl ⟨gb, 0, none⟩ rfl n.cells _ (fun j x hx => by rw [Addr.add_mid, Nat.zero_add]; exact (NB3.out.fr hf (fun x => x)).cell j |>.trans (by rw [List.getElem?_toArray]; exact hx)) Tryz.underlying44 rfl infoName ⟨_, rfl, Fr.refl _ _, rfl, trivial⟩
     ·clear hR k1 k0 kM
      refine .inl ⟨by kernel_rfl, ?_⟩
      go_simp
      exact ⟨_, rfl, Fr.refl _ _, rfl, trivial⟩
     ·have h4 : u 4 = _ := hR 4 (by kernel_rfl)
      have h5 : u 5 = _ := hR 5 (by kernel_rfl)
      clear hR k1 k0 kM
      simp only [h4, h5]
      refine .inl ⟨by kernel_rfl, ?_⟩
      exact wp_builtA 69 _ rfl (nodeN n v) _ (by simp only [List.map_toArray, List.map_cons, List.map_nil]; rfl) (BN.out) ⟨_, rfl, Fr.refl _ _, rfl, trivial⟩
     ·have h6 : u 6 = _ := hR 6 (by kernel_rfl)
      clear hR k1 k0 kM
      simp only [h6]
      refine .inl ⟨by kernel_rfl, ?_⟩
      go_simp
      exact ⟨_, rfl, (Fr.refl _ _).alloc _, ⟨_, rfl, Mid.of (Blk.new _ _ _)⟩, trivial⟩
     ·have h3 : u 3 = _ := hR 3 (by kernel_rfl)
      obtain ⟨g7, e7, b7⟩ := hR 7 (by kernel_rfl)
      clear hR k1 k0 kM
      simp only [h3, e7]
      refine .inl ⟨by kernel_rfl, ?_⟩
      go_simp
      refine (CW.out _ g7 (F3.out.trans hf) b7).mono ?_
      rintro e w4 ⟨za, zt, rfl, hn, hl, f4⟩
      exact ⟨_, rfl, f4.weak, ⟨za, zt, rfl, hn, hl⟩, trivial⟩
    ·intro u w' hf hR kM
     obtain ⟨za, zt, k8, hN, hl⟩ := hR 8 (by omega)
     clear hR kM
     simp only [List.take_succ_cons, List.take_zero, List.map_cons, List.map_nil, puts, Act.put, List.setIfInBounds_toArray, List.set_cons_zero, List.set_cons_succ, List.drop_succ_cons, List.drop_zero, Nat.reduceAdd, Nat.zero_add, k8]
     have F4 := Lib.hid (F2.out.trans (F3.out.trans hf))
     have HNN := Lib.hid hN
     have HLL := Lib.hid hl
     clear hf k8 hN hl
     go_wp2_with (refine wpList_boxBlk rfl 100 (.tmp 41) rfl #[.pointer za] rfl ?_)
     intro w5 n5
     have N5 := Lib.hid n5
     clear n5
     go_wp2
     go_ret2
     exact ⟨_, 0, rfl, F4.out.trans N5.out.fr, .inl ⟨HOK.out, HV.out, rfl, _, rfl, zt, ⟨za, N5.out.blk, HNN.out.fr0 N5.out.fr⟩, by rw [HLL.out, HTL.out]⟩⟩
  ·have tv : decide ((65536 : Int) < (v.size : Int)) = true := decide_eq_true (by omega)
   have HV : Hid (65536 < v.size) := by simp only [Hid]; omega
   clear hv
   go_wp2
   go_ret2
   exact ⟨none, 5, rfl, F2.out, .inr (.inr ⟨HOK.out, HV.out, rfl, rfl⟩)⟩
set_option maxRecDepth 100000 in
set_option maxHeartbeats 4000000 in
theorem Get_any (L : List Ent) (n : NameV) (s : Nat) (w : World) (hS : StL w s L) (hG : GoodL L) (hN : GoodN n) :
  Calls Tryz.prog 17 #[.pointer (some ⟨s, 0, none⟩), .agg n.cells.toArray] w (Same' w (getV (findL n L))) := by
 obtain ⟨t, hS, htl⟩ := hS
 subst htl
 obtain ⟨a, hb, hn⟩ := hS
 have CF : Hid (∀ w', Fr Nothing w w' → Calls Tryz.prog 45 #[.pointer a, .agg n.cells.toArray] w' (Found w' n t.toL)) := fun w' hf => find_any n a t w' (hn.fr0 hf) hG.sort hN.owner hG.short
 have R00 : Hid (w.cell? ⟨s, 0, none⟩ = some (.pointer a)) := hb.cell 0
 clear hb hn hG hN
 cases hf : findL n t.toL with
 | none =>
  have HF := Lib.hid hf
  clear hf
  go_enter Tryz.func17, Tryz.ntmps17
  go_wp2_with (refine wpList_boxBlk rfl 44 (.tmp 1) rfl n.cells.toArray rfl ?_)
  intro w1 n1
  have F1 := Lib.hid n1.fr
  have NB0 := Lib.hid n1.blk
  clear n1
  generalize w.heap.size = gb at *
  have NB : Hid (Blk w1 gb 44 n.cells.toArray) := NB0.out
  clear NB0
  go_upto_region 3 with fail
  refine wp_region_st 7 Nothing [Is (.pointer (some ⟨s, 0, none⟩)), Is (.pointer (some ⟨s, 0, none⟩)), Is (.pointer (some ⟨s, 0, none⟩)), Is (.pointer a), Is (.agg n.cells.toArray), Is (.pointer none), Is (.pointer none)] [] (fun _ => True) (fun _ _ => false) (by kernel_rfl) (by kernel_rfl) (by kernel_rfl) (by kernel_rfl) ⟨Is.stable _, Is.stable _, Is.stable _, Is.stable _, Is.stable _, Is.stable _, Is.stable _, trivial⟩ trivial (fun _ _ _ _ h => h) trivial ?_ ?_
  ·refine ⟨fun u w' d hf hR k1 k0 kM => ?_, fun u w' d hf hR k1 k0 kM => ?_, fun u w' d hf hR k1 k0 kM => ?_, fun u w' d hf hR k1 k0 kM => ?_, fun u w' d hf hR k1 k0 kM => ?_, fun u w' d hf hR k1 k0 kM => ?_, fun u w' d hf hR k1 k0 kM => ?_, trivial⟩
   all_goals simp only [List.take_succ_cons, List.take_zero, List.map_cons, List.map_nil, puts, Act.put, List.setIfInBounds_toArray, List.set_cons_zero, List.set_cons_succ, Nat.reduceAdd, Nat.zero_add]
   ·clear hR k1 k0 kM
    refine .inl ⟨by kernel_rfl, ?_⟩
    go_simp
    exact ⟨_, rfl, Fr.refl _ _, rfl, trivial⟩
   ·have h0 : u 0 = _ := hR 0 (by kernel_rfl)
    clear hR k1 k0 kM
    simp only [h0]
    refine .inl ⟨by kernel_rfl, ?_⟩
    go_simp
    exact ⟨_, rfl, Fr.refl _ _, rfl, trivial⟩
   ·have h1 : u 1 = _ := hR 1 (by kernel_rfl)
    clear hR k1 k0 kM
    simp only [h1]
    refine .inl ⟨by kernel_rfl, ?_⟩
    go_simp
    exact ⟨_, rfl, Fr.refl _ _, rfl, trivial⟩
   ·have h2 : u 2 = _ := hR 2 (by kernel_rfl)
    clear hR k1 k0 kM
    simp only [h2]
    refine .inl ⟨by kernel_rfl, ?_⟩
    have q := hf.cellSome (F1.out.cellSome R00.out (fun x => x)) (fun x => x)
    go_simp
    exact ⟨_, rfl, Fr.refl _ _, rfl, trivial⟩
   ·clear hR k1 k0 kM
    refine .inl ⟨by kernel_rfl, ?_⟩
    exact wp_load_add _ _ rfl ⟨gb, 0, none⟩ rfl n.cells _ (fun j x hx => by rw [Addr.add_mid, Nat.zero_add]; exact (NB.out.fr hf (fun x => x)).cell j |>.trans (by rw [List.getElem?_toArray]; exact hx)) Tryz.underlying44 rfl infoName ⟨_, rfl, Fr.refl _ _, rfl, trivial⟩
   ·have h3 : u 3 = _ := hR 3 (by kernel_rfl)
    have h4 : u 4 = _ := hR 4 (by kernel_rfl)
    clear hR k1 k0 kM
    simp only [h3, h4]
    refine .inl ⟨by kernel_rfl, ?_⟩
    go_simp
    refine (CF.out _ (F1.out.trans hf)).mono ?_
    rintro e w4 ⟨p, rfl, f4, ⟨g, y, rfl, hy, hm⟩ | ⟨rfl, hy⟩⟩
    ·rw [HF.out] at hy
     cases hy
    ·exact ⟨_, rfl, f4.weak, rfl, trivial⟩
   ·have h5 : u 5 = _ := hR 5 (by kernel_rfl)
    clear hR k1 k0 kM
    simp only [h5]
    refine .inl ⟨by kernel_rfl, ?_⟩
    go_simp
    exact ⟨_, rfl, Fr.refl _ _, rfl, trivial⟩
  ·intro u w' hf hR kM
   have k6 : u 6 = _ := hR 6 (by omega)
   clear hR kM
   simp only [List.take_succ_cons, List.take_zero, List.map_cons, List.map_nil, puts, Act.put, List.setIfInBounds_toArray, List.set_cons_zero, List.set_cons_succ, List.drop_succ_cons, List.drop_zero, Nat.reduceAdd, Nat.zero_add, k6]
   have F2 := Lib.hid (F1.out.trans hf)
   clear hf k6
   go_wp2
   go_ret2
   exact ⟨rfl, F2.out⟩
 | some x =>
  have HF := Lib.hid hf
  clear hf
  go_enter Tryz.func17, Tryz.ntmps17
  go_wp2_with (refine wpList_boxBlk rfl 44 (.tmp 1) rfl n.cells.toArray rfl ?_)
  intro w1 n1
  have F1 := Lib.hid n1.fr
  have NB0 := Lib.hid n1.blk
  clear n1
  generalize w.heap.size = gb at *
  have NB : Hid (Blk w1 gb 44 n.cells.toArray) := NB0.out
  clear NB0
  go_upto_region 3 with fail
  refine wp_region_st 7 Nothing [Is (.pointer (some ⟨s, 0, none⟩)), Is (.pointer (some ⟨s, 0, none⟩)), Is (.pointer (some ⟨s, 0, none⟩)), Is (.pointer a), Is (.agg n.cells.toArray), (fun zv zW => ∃ zg, zv = .pointer (some ⟨zg, 0, none⟩) ∧ Mid zW zg n x), (fun zv zW => ∃ zg, zv = .pointer (some ⟨zg, 0, none⟩) ∧ Mid zW zg n x)] [] (fun _ => True) (fun _ _ => false) (by kernel_rfl) (by kernel_rfl) (by kernel_rfl) (by kernel_rfl) ⟨Is.stable _, Is.stable _, Is.stable _, Is.stable _, Is.stable _, fun _ _ _ _ hf h => by obtain ⟨g, h, hb⟩ := h; exact ⟨g, h, hb.fr0 hf⟩, fun _ _ _ _ hf h => by obtain ⟨g, h, hb⟩ := h; exact ⟨g, h, hb.fr0 hf⟩, trivial⟩ trivial (fun _ _ _ _ h => h) trivial ?_ ?_
  ·refine ⟨fun u w' d hf hR k1 k0 kM => ?_, fun u w' d hf hR k1 k0 kM => ?_, fun u w' d hf hR k1 k0 kM => ?_, fun u w' d hf hR k1 k0 kM => ?_, fun u w' d hf hR k1 k0 kM => ?_, fun u w' d hf hR k1 k0 kM => ?_, fun u w' d hf hR k1 k0 kM => ?_, trivial⟩
   all_goals simp only [List.take_succ_cons, List.take_zero, List.map_cons, List.map_nil, puts, Act.put, List.setIfInBounds_toArray, List.set_cons_zero, List.set_cons_succ, Nat.reduceAdd, Nat.zero_add]
   ·clear hR k1 k0 kM
    refine .inl ⟨by kernel_rfl, ?_⟩
    go_simp
    exact ⟨_, rfl, Fr.refl _ _, rfl, trivial⟩
   ·have h0 : u 0 = _ := hR 0 (by kernel_rfl)
    clear hR k1 k0 kM
    simp only [h0]
    refine .inl ⟨by kernel_rfl, ?_⟩
    go_simp
    exact ⟨_, rfl, Fr.refl _ _, rfl, trivial⟩
   ·have h1 : u 1 = _ := hR 1 (by kernel_rfl)
    clear hR k1 k0 kM
    simp only [h1]
    refine .inl ⟨by kernel_rfl, ?_⟩
    go_simp
    exact ⟨_, rfl, Fr.refl _ _, rfl, trivial⟩
   ·have h2 : u 2 = _ := hR 2 (by kernel_rfl)
    clear hR k1 k0 kM
    simp only [h2]
    refine .inl ⟨by kernel_rfl, ?_⟩
    have q := hf.cellSome (F1.out.cellSome R00.out (fun x => x)) (fun x => x)
    go_simp
    exact ⟨_, rfl, Fr.refl _ _, rfl, trivial⟩
   ·clear hR k1 k0 kM
    refine .inl ⟨by kernel_rfl, ?_⟩
    exact wp_load_add _ _ rfl ⟨gb, 0, none⟩ rfl n.cells _ (fun j x hx => by rw [Addr.add_mid, Nat.zero_add]; exact (NB.out.fr hf (fun x => x)).cell j |>.trans (by rw [List.getElem?_toArray]; exact hx)) Tryz.underlying44 rfl infoName ⟨_, rfl, Fr.refl _ _, rfl, trivial⟩
   ·have h3 : u 3 = _ := hR 3 (by kernel_rfl)
    have h4 : u 4 = _ := hR 4 (by kernel_rfl)
    clear hR k1 k0 kM
    simp only [h3, h4]
    refine .inl ⟨by kernel_rfl, ?_⟩
    go_simp
    refine (CF.out _ (F1.out.trans hf)).mono ?_
    rintro e w4 ⟨p, rfl, f4, ⟨g, y, rfl, hy, hm⟩ | ⟨rfl, hy⟩⟩
    ·rw [HF.out] at hy
     cases hy
     exact ⟨_, rfl, f4.weak, ⟨g, rfl, hm⟩, trivial⟩
    ·rw [HF.out] at hy
     cases hy
   ·obtain ⟨g5, e5, m5⟩ := hR 5 (by kernel_rfl)
    clear hR k1 k0 kM
    simp only [e5]
    refine .inl ⟨by kernel_rfl, ?_⟩
    go_simp
    exact ⟨_, rfl, Fr.refl _ _, ⟨_, rfl, m5⟩, trivial⟩
  ·intro u w' hf hR kM
   obtain ⟨g6, e6, m6⟩ := hR 6 (by omega)
   clear hR kM
   simp only [List.take_succ_cons, List.take_zero, List.map_cons, List.map_nil, puts, Act.put, List.setIfInBounds_toArray, List.set_cons_zero, List.set_cons_succ, List.drop_succ_cons, List.drop_zero, Nat.reduceAdd, Nat.zero_add, e6]
   have F2 := Lib.hid (F1.out.trans hf)
   have cv := m6.val
   clear hf e6 m6
   go_wp2
   go_ret2
   exact ⟨rfl, F2.out⟩
set_option maxRecDepth 100000 in
set_option maxHeartbeats 4000000 in
theorem Without_any (L : List Ent) (n : NameV) (s : Nat) (w : World) (hS : StL w s L) (hU : UsaT w) (hG : GoodL L) (hN : GoodN n) :
  Calls Tryz.prog 16 #[.pointer (some ⟨s, 0, none⟩), .agg n.cells.toArray] w (Withouted w L n) := by
 have HS0 := Lib.hid hS
 obtain ⟨t, hS, htl⟩ := hS
 subst htl
 obtain ⟨a, hb, hn⟩ := hS
 have CF : Hid (∀ w', Fr Nothing w w' → Calls Tryz.prog 45 #[.pointer a, .agg n.cells.toArray] w' (Found w' n t.toL)) := fun w' hf => find_any n a t w' (hn.fr0 hf) hG.sort hN.owner hG.short
 have R00 : Hid (w.cell? ⟨s, 0, none⟩ = some (.pointer a)) := hb.cell 0
 have CK : Hid (∀ w', Fr Nothing w w' → Calls Tryz.prog 44 #[.agg n.cells.toArray] w' (Checked w' n)) := fun w' hf => Check_any n w' (hU.fr0 hf) hN.owner hN.text
 have CW : Hid (∀ w', (∃ v, (n, v) ∈ t.toL) → Fr Nothing w w' → Calls Tryz.prog 47 #[.pointer a, .agg n.cells.toArray] w' (Balanced w' (delL n t.toL))) := fun w' hm hf =>
  without_any t n a w' hN.owner hm (hn.fr0 hf) hG.sort hG.short (by have h := hG.len; rw [Tr.toL_length] at h; omega) (by have h := hG.bytes; rw [← Tr.bytes_toL] at h; omega)
 clear hb hn hG hN hU
 go_enter Tryz.func16, Tryz.ntmps16
 go_wp2_with (refine wpList_boxBlk rfl 44 (.tmp 1) rfl n.cells.toArray rfl ?_)
 intro w1 n1
 have F1 := Lib.hid n1.fr
 have NB0 := Lib.hid n1.blk
 clear n1
 generalize w.heap.size = gb at *
 have NB : Hid (Blk w1 gb 44 n.cells.toArray) := NB0.out
 clear NB0
 go_wp2_with (refine wpList_load_add rfl 44 (.tmp 3) rfl ⟨gb, 0, none⟩ rfl n.cells _ ?hcc Tryz.underlying44 rfl infoName (Held.go ?hold))
 case hcc => exact fun j x hx => by rw [Addr.add_mid, Nat.zero_add]; exact NB.out.cell j |>.trans (by rw [List.getElem?_toArray]; exact hx)
 unfold Held
 go_wp2_with fail
 refine (CK.out _ F1.out).mono ?_
 rintro e w2 ⟨k, rfl, hk, f2⟩
 have F2 := Lib.hid (F1.out.trans f2)
 have NB2 := Lib.hid (NB.out.fr f2 (fun x => x))
 have HK := Lib.hid hk
 clear f2 NB hk
 cases hok : okNm n
 ·have hk0 : k ≠ 0 := by
   have h := HK.out
   rw [hok] at h
   intro e
   subst e
   simp at h
  have t0 := bne0 hk0
  have HOK := Lib.hid hok
  clear hok hk0
  go_wp2
  go_ret2
  exact ⟨none, 12, rfl, F2.out, .inr ⟨HOK.out, rfl, rfl⟩⟩
 ·have hk0 : k = 0 := by
   have h := HK.out
   rw [hok] at h
   simpa using h
  subst hk0
  have HOK := Lib.hid hok
  clear hok
  cases hf : findL n t.toL with
  | none =>
   have HF := Lib.hid hf
   have HDL := Lib.hid (delL_none hf)
   clear hf
   go_upto_region 5 with fail
   refine wp_region_st 8 Nothing [Is (.pointer (some ⟨s, 0, none⟩)), Is (.pointer (some ⟨s, 0, none⟩)), Is (.pointer (some ⟨s, 0, none⟩)), Is (.pointer a), Is (.agg n.cells.toArray), Is (.pointer none), Is (.bool true), Is (.bool true)] [] (fun _ => True) (fun _ _ => false) (by kernel_rfl) (by kernel_rfl) (by kernel_rfl) (by kernel_rfl) ⟨Is.stable _, Is.stable _, Is.stable _, Is.stable _, Is.stable _, Is.stable _, Is.stable _, Is.stable _, trivial⟩ trivial (fun _ _ _ _ h => h) trivial ?_ ?_
   ·refine ⟨fun u w' d hf hR k1 k0 kM => ?_, fun u w' d hf hR k1 k0 kM => ?_, fun u w' d hf hR k1 k0 kM => ?_, fun u w' d hf hR k1 k0 kM => ?_, fun u w' d hf hR k1 k0 kM => ?_, fun u w' d hf hR k1 k0 kM => ?_, fun u w' d hf hR k1 k0 kM => ?_, fun u w' d hf hR k1 k0 kM => ?_, trivial⟩
    all_goals simp only [List.take_succ_cons, List.take_zero, List.map_cons, List.map_nil, puts, Act.put, List.setIfInBounds_toArray, List.set_cons_zero, List.set_cons_succ, Nat.reduceAdd, Nat.zero_add]
    ·clear hR k1 k0 kM
     refine .inl ⟨by kernel_rfl, ?_⟩
     go_simp
     exact ⟨_, rfl, Fr.refl _ _, rfl, trivial⟩
    ·have h0 : u 0 = _ := hR 0 (by kernel_rfl)
     clear hR k1 k0 kM
     simp only [h0]
     refine .inl ⟨by kernel_rfl, ?_⟩
     go_simp
     exact ⟨_, rfl, Fr.refl _ _, rfl, trivial⟩
    ·have h1 : u 1 = _ := hR 1 (by kernel_rfl)
     clear hR k1 k0 kM
     simp only [h1]
     refine .inl ⟨by kernel_rfl, ?_⟩
     go_simp
     exact ⟨_, rfl, Fr.refl _ _, rfl, trivial⟩
    ·have h2 : u 2 = _ := hR 2 (by kernel_rfl)
     clear hR k1 k0 kM
     simp only [h2]
     refine .inl ⟨by kernel_rfl, ?_⟩
     have q := hf.cellSome (F2.out.cellSome R00.out (fun x => x)) (fun x => x)
     go_simp
     exact ⟨_, rfl, Fr.refl _ _, rfl, trivial⟩
    ·clear hR k1 k0 kM
     refine .inl ⟨by kernel_rfl, ?_⟩
     exact wp_load_add _ _ rfl ⟨gb, 0, none⟩ rfl n.cells _ (fun j x hx => by rw [Addr.add_mid, Nat.zero_add]; exact (NB2.out.fr hf (fun x => x)).cell j |>.trans (by rw [List.getElem?_toArray]; exact hx)) Tryz.underlying44 rfl infoName ⟨_, rfl, Fr.refl _ _, rfl, trivial⟩
    ·have h3 : u 3 = _ := hR 3 (by kernel_rfl)
     have h4 : u 4 = _ := hR 4 (by kernel_rfl)
     clear hR k1 k0 kM
     simp only [h3, h4]
     refine .inl ⟨by kernel_rfl, ?_⟩
     go_simp
     refine (CF.out _ (F2.out.trans hf)).mono ?_
     rintro e w4 ⟨p, rfl, f4, ⟨g, y, rfl, hy, hm⟩ | ⟨rfl, hy⟩⟩
     ·rw [HF.out] at hy
      cases hy
     ·exact ⟨_, rfl, f4.weak, rfl, trivial⟩
    ·have h5 : u 5 = _ := hR 5 (by kernel_rfl)
     clear hR k1 k0 kM
     simp only [h5]
     refine .inl ⟨by kernel_rfl, ?_⟩
     go_simp
     exact ⟨_, rfl, Fr.refl _ _, rfl, trivial⟩
    ·have h6 : u 6 = _ := hR 6 (by kernel_rfl)
     clear hR k1 k0 kM
     simp only [h6]
     refine .inl ⟨by kernel_rfl, ?_⟩
     go_simp
     exact ⟨_, rfl, Fr.refl _ _, rfl, trivial⟩
   ·intro u w' hf hR kM
    have k7 : u 7 = _ := hR 7 (by omega)
    clear hR kM
    simp only [List.take_succ_cons, List.take_zero, List.map_cons, List.map_nil, puts, Act.put, List.setIfInBounds_toArray, List.set_cons_zero, List.set_cons_succ, List.drop_succ_cons, List.drop_zero, Nat.reduceAdd, Nat.zero_add, k7]
    have F3 := Lib.hid (F2.out.trans hf)
    clear hf k7
    go_wp2
    go_ret2
    exact ⟨_, 0, rfl, F3.out, .inl ⟨HOK.out, rfl, s, rfl, by rw [HDL.out]; exact HS0.out.fr0 F3.out⟩⟩
  | some x =>
   have HF := Lib.hid hf
   have HME : Hid (∃ v, (n, v) ∈ t.toL) := ⟨x, findL_mem hf⟩
   clear hf
   go_upto_region 5 with fail
   refine wp_region_st 8 Nothing [Is (.pointer (some ⟨s, 0, none⟩)), Is (.pointer (some ⟨s, 0, none⟩)), Is (.pointer (some ⟨s, 0, none⟩)), Is (.pointer a), Is (.agg n.cells.toArray), (fun zv zW => ∃ zg, zv = .pointer (some ⟨zg, 0, none⟩) ∧ Mid zW zg n x), Is (.bool false), Is (.bool false)] [] (fun _ => True) (fun _ _ => false) (by kernel_rfl) (by kernel_rfl) (by kernel_rfl) (by kernel_rfl) ⟨Is.stable _, Is.stable _, Is.stable _, Is.stable _, Is.stable _, fun _ _ _ _ hf h => by obtain ⟨g, h, hb⟩ := h; exact ⟨g, h, hb.fr0 hf⟩, Is.stable _, Is.stable _, trivial⟩ trivial (fun _ _ _ _ h => h) trivial ?_ ?_
   ·refine ⟨fun u w' d hf hR k1 k0 kM => ?_, fun u w' d hf hR k1 k0 kM => ?_, fun u w' d hf hR k1 k0 kM => ?_, fun u w' d hf hR k1 k0 kM => ?_, fun u w' d hf hR k1 k0 kM => ?_, fun u w' d hf hR k1 k0 kM => ?_, fun u w' d hf hR k1 k0 kM => ?_, fun u w' d hf hR k1 k0 kM => ?_, trivial⟩
    all_goals simp only [List.take_succ_cons, List.take_zero, List.map_cons, List.map_nil, puts, Act.put, List.setIfInBounds_toArray, List.set_cons_zero, List.set_cons_succ, Nat.reduceAdd, Nat.zero_add]
    ·clear hR k1 k0 kM
     refine .inl ⟨by kernel_rfl, ?_⟩
     go_simp
     exact ⟨_, rfl, Fr.refl _ _, rfl, trivial⟩
    ·have h0 : u 0 = _ := hR 0 (by kernel_rfl)
     clear hR k1 k0 kM
     simp only [h0]
     refine .inl ⟨by kernel_rfl, ?_⟩
     go_simp
     exact ⟨_, rfl, Fr.refl _ _, rfl, trivial⟩
    ·have h1 : u 1 = _ := hR 1 (by kernel_rfl)
     clear hR k1 k0 kM
     simp only [h1]
     refine .inl ⟨by kernel_rfl, ?_⟩
     go_simp
     exact ⟨_, rfl, Fr.refl _ _, rfl, trivial⟩
    ·have h2 : u 2 = _ := hR 2 (by kernel_rfl)
     clear hR k1 k0 kM
     simp only [h2]
     refine .inl ⟨by kernel_rfl, ?_⟩
     have q := hf.cellSome (F2.out.cellSome R00.out (fun x => x)) (fun x => x)
     go_simp
     exact ⟨_, rfl, Fr.refl _ _, rfl, trivial⟩
    ·clear hR k1 k0 kM
     refine .inl ⟨by kernel_rfl, ?_⟩
     exact wp_load_add _ _ rfl ⟨gb, 0, none⟩ rfl n.cells _ (fun j x hx => by rw [Addr.add_mid, Nat.zero_add]; exact (NB2.out.fr hf (fun x => x)).cell j |>.trans (by rw [List.getElem?_toArray]; exact hx)) Tryz.underlying44 rfl infoName ⟨_, rfl, Fr.refl _ _, rfl, trivial⟩
    ·have h3 : u 3 = _ := hR 3 (by kernel_rfl)
     have h4 : u 4 = _ := hR 4 (by kernel_rfl)
     clear hR k1 k0 kM
     simp only [h3, h4]
     refine .inl ⟨by kernel_rfl, ?_⟩
     go_simp
     refine (CF.out _ (F2.out.trans hf)).mono ?_
     rintro e w4 ⟨p, rfl, f4, ⟨g, y, rfl, hy, hm⟩ | ⟨rfl, hy⟩⟩
     ·rw [HF.out] at hy
      cases hy
      exact ⟨_, rfl, f4.weak, ⟨g, rfl, hm⟩, trivial⟩
     ·rw [HF.out] at hy
      cases hy
    ·obtain ⟨g5, e5, m5⟩ := hR 5 (by kernel_rfl)
     clear hR k1 k0 kM
     simp only [e5]
     refine .inl ⟨by kernel_rfl, ?_⟩
     go_simp
     exact ⟨_, rfl, Fr.refl _ _, rfl, trivial⟩
    ·have h6 : u 6 = _ := hR 6 (by kernel_rfl)
     clear hR k1 k0 kM
     simp only [h6]
     refine .inl ⟨by kernel_rfl, ?_⟩
     go_simp
     exact ⟨_, rfl, Fr.refl _ _, rfl, trivial⟩
   ·intro u w' hf hR kM
    have k7 : u 7 = _ := hR 7 (by omega)
    clear hR kM
    simp only [List.take_succ_cons, List.take_zero, List.map_cons, List.map_nil, puts, Act.put, List.setIfInBounds_toArray, List.set_cons_zero, List.set_cons_succ, List.drop_succ_cons, List.drop_zero, Nat.reduceAdd, Nat.zero_add, k7]
    have F3 := Lib.hid hf
    have NB3 := Lib.hid (NB2.out.fr hf (fun x => x))
    clear hf k7
    go_upto_region 7 with fail
    refine wp_region_st 6 Nothing [Is (.pointer (some ⟨s, 0, none⟩)), Is (.pointer (some ⟨s, 0, none⟩)), Is (.pointer (some ⟨s, 0, none⟩)), Is (.pointer a), Is (.agg n.cells.toArray), (fun zv zW => NodL zW zv (delL n t.toL))] [] (fun _ => True) (fun _ _ => false) (by kernel_rfl) (by kernel_rfl) (by kernel_rfl) (by kernel_rfl) ⟨Is.stable _, Is.stable _, Is.stable _, Is.stable _, Is.stable _, fun v w1 w2 _ f h => by obtain ⟨a, t, e, hn, hl⟩ := h; exact ⟨a, t, e, hn.fr0 f, hl⟩, trivial⟩ trivial (fun _ _ _ _ h => h) trivial ?_ ?_
    ·refine ⟨fun u w' d hf hR k1 k0 kM => ?_, fun u w' d hf hR k1 k0 kM => ?_, fun u w' d hf hR k1 k0 kM => ?_, fun u w' d hf hR k1 k0 kM => ?_, fun u w' d hf hR k1 k0 kM => ?_, fun u w' d hf hR k1 k0 kM => ?_, trivial⟩
     all_goals simp only [List.take_succ_cons, List.take_zero, List.map_cons, List.map_nil, puts, Act.put, List.setIfInBounds_toArray, List.set_cons_zero, List.set_cons_succ, Nat.reduceAdd, Nat.zero_add]
     ·clear hR k1 k0 kM
      refine .inl ⟨by kernel_rfl, ?_⟩
      go_simp
      exact ⟨_, rfl, Fr.refl _ _, rfl, trivial⟩
     ·have h0 : u 0 = _ := hR 0 (by kernel_rfl)
      clear hR k1 k0 kM
      simp only [h0]
      refine .inl ⟨by kernel_rfl, ?_⟩
      go_simp
      exact ⟨_, rfl, Fr.refl _ _, rfl, trivial⟩
     ·have h1 : u 1 = _ := hR 1 (by kernel_rfl)
      clear hR k1 k0 kM
      simp only [h1]
      refine .inl ⟨by kernel_rfl, ?_⟩
      go_simp
      exact ⟨_, rfl, Fr.refl _ _, rfl, trivial⟩
     ·have h2 : u 2 = _ := hR 2 (by kernel_rfl)
      clear hR k1 k0 kM
      simp only [h2]
      refine .inl ⟨by kernel_rfl, ?_⟩
      have q := hf.cellSome ((F2.out.trans F3.out).cellSome R00.out (fun x => x)) (fun x => x)
      go_simp
      exact ⟨_, rfl, Fr.refl _ _, rfl, trivial⟩
     ·clear hR k1 k0 kM
      refine .inl ⟨by kernel_rfl, ?_⟩
      exact wp_load_add _ _ rfl ⟨gb, 0, none⟩ rfl n.cells _ (fun j x hx => by rw [Addr.add_mid, Nat.zero_add]; exact (NB3.out.fr hf (fun x => x)).cell j |>.trans (by rw [List.getElem?_toArray]; exact hx)) Tryz.underlying44 rfl infoName ⟨_, rfl, Fr.refl _ _, rfl, trivial⟩
     ·have h3 : u 3 = _ := hR 3 (by kernel_rfl)
      have h4 : u 4 = _ := hR 4 (by kernel_rfl)
      clear hR k1 k0 kM
      simp only [h3, h4]
      refine .inl ⟨by kernel_rfl, ?_⟩
      go_simp
      refine (CW.out _ HME.out (F2.out.trans (F3.out.trans hf))).mono ?_
      rintro e w4 ⟨za, zt, rfl, hn, hl, f4⟩
      exact ⟨_, rfl, f4.weak, ⟨za, zt, rfl, hn, hl⟩, trivial⟩
    ·intro u w' hf hR kM
     obtain ⟨za, zt, k5, hN, hl⟩ := hR 5 (by omega)
     clear hR kM
     simp only [List.take_succ_cons, List.take_zero, List.map_cons, List.map_nil, puts, Act.put, List.setIfInBounds_toArray, List.set_cons_zero, List.set_cons_succ, List.drop_succ_cons, List.drop_zero, Nat.reduceAdd, Nat.zero_add, k5]
     have F4 := Lib.hid (F2.out.trans (F3.out.trans hf))
     have HNN := Lib.hid hN
     have HLL := Lib.hid hl
     clear hf k5 hN hl
     go_wp2_with (refine wpList_boxBlk rfl 100 (.tmp 28) rfl #[.pointer za] rfl ?_)
     intro w5 n5
     have N5 := Lib.hid n5
     clear n5
     go_wp2
     go_ret2
     exact ⟨_, 0, rfl, F4.out.trans N5.out.fr, .inl ⟨HOK.out, rfl, _, rfl, zt, ⟨za, N5.out.blk, HNN.out.fr0 N5.out.fr⟩, HLL.out⟩⟩
end Go.Proofs.YtpnchdgplpdefaaGreatDoor
