/- Tree.Clone, Tree.Truncate: written by genTrW.py. -/
import Derived.Test.YtkaghbpdnmigmaaDoorTrT
import Derived.Test.YtkaghbpdnmigmaaDoorTrV
namespace Go.Proofs.YtkaghbpdnmigmaaDoor
open Go.RowKit

def PathD (w : World) (n : Nat) (PL : List (List UInt8)) (v : Value) (w' : World) : Prop := ∃ v1, v = v1 ∧ Grew 24 32 w (.slice none 0 0) w' v1 n (PL.flatMap digC)
theorem PathD.stable {w W : World} {n : Nat} {PL : List (List UInt8)} : ∀ v w' w'', Fr Nothing W w' → Fr Nothing w' w'' → PathD w n PL v w' → PathD w n PL v w'' := fun _ _ _ _ hf ⟨v1, h, hG⟩ => ⟨v1, h, hG.behind hf⟩
def MapOk (w : World) (ds : List (List UInt8)) (C : Nat → Nat → Prop) (mb : Option Nat) (W : World) : Prop := (∃ b, mb = some b ∧ PartM W b ds C ∧ w.heap.size ≤ b) ∨ (mb = none ∧ ∀ l i, ¬ C l i)
theorem MapOk.fr {w W W' : World} {ds : List (List UInt8)} {C : Nat → Nat → Prop} {mb : Option Nat} (h : MapOk w ds C mb W) (hf : Fr Nothing W W') : MapOk w ds C mb W' := by
  rcases h with ⟨b, h1, h2, h3⟩ | h
  · exact .inl ⟨b, h1, h2.fr hf (fun x => x), h3⟩
  · exact .inr h
def MapF (w : World) (ds : List (List UInt8)) (C : Nat → Nat → Prop) (v : Value) (W : World) : Prop := ∃ mb, v = .map mb ∧ MapOk w ds C mb W
theorem MapF.stable {w W : World} {ds : List (List UInt8)} {C : Nat → Nat → Prop} : ∀ v w' w'', Fr Nothing W w' → Fr Nothing w' w'' → MapF w ds C v w' → MapF w ds C v w'' := fun _ _ _ _ hf ⟨mb, h, hM⟩ => ⟨mb, h, hM.fr hf⟩
theorem mapsClone_any (w0 : World) (mb : Option Nat) (ds : List (List UInt8)) (C : Nat → Nat → Prop) (w : World) (h : (∃ b, mb = some b ∧ PartM w b ds C) ∨ (mb = none ∧ ∀ l i, ¬ C l i)) (hw : w0.heap.size ≤ w.heap.size) :
    Calls Tryd.prog 65 #[.map mb] w (fun e w' => ∃ mb2, e = .returned (.map mb2) ∧ MapOk w0 ds C mb2 w' ∧ Fr Nothing w w') := by
  rcases h with ⟨b, rfl, hM⟩ | ⟨rfl, h0⟩
  · refine (mapsClone_some b ds C w hM).mono ?_
    rintro e w' ⟨rfl, hP, hf⟩
    exact ⟨_, rfl, .inl ⟨_, rfl, hP, hw⟩, hf⟩
  · refine (mapsClone_nil w).mono ?_
    rintro e w' ⟨rfl, rfl⟩
    exact ⟨_, rfl, .inr ⟨rfl, h0⟩, Fr.refl _ _⟩
theorem TreeC.fr0p {w w' : World} {p : Nat} {A : Option Addr} {n c : Nat} {mb : Option Nat} {ds : List (List UInt8)} {C : Nat → Nat → Prop} (h : TreeC w p A n c mb ds C) (hf : Fr Nothing w w') : (∃ b, mb = some b ∧ PartM w' b ds C) ∨ (mb = none ∧ ∀ l i, ¬ C l i) := (h.fr0 hf).parts

set_option maxRecDepth 100000 in
set_option maxHeartbeats 2000000 in
theorem Clone_at (w : World) (p : Nat) (A : Option Addr) (n c : Nat) (mb : Option Nat) (ds : List (List UInt8)) (hT : TreeC w p A n c mb ds (partC n)) (hn : n ≤ 1048576) :
    Calls Tryd.prog 38 #[.pointer (some ⟨p, 0, none⟩)] w (fun e w' => ∃ g, e = .returned (.pointer (some ⟨g, 0, none⟩)) ∧ TreeN w w' g ds) := by
  have CS : Hid (∀ w', Fr Nothing w w' → Calls Tryd.prog 64 #[.slice A n c] w' (Owned w' n ds)) := fun w' hf => slClone_any n ds A c _ w' (hT.dig.fr0 hf) hn
  have CM : Hid (∀ w', Fr Nothing w w' → Calls Tryd.prog 65 #[.map mb] w' (fun e w'' => ∃ mb2, e = .returned (.map mb2) ∧ MapOk w ds (partC n) mb2 w'' ∧ Fr Nothing w' w'')) := fun w' hf => mapsClone_any w mb ds (partC n) w' (hT.fr0p hf) hf.size
  have P0 : Hid (w.cell? ⟨p, 0, none⟩ = some (.slice A n c)) := hT.blk.cell 0
  have P1 : Hid (w.cell? ⟨p, 1, none⟩ = some (.map mb)) := hT.blk.cell 1
  have HL := Lib.hid hT.len
  have HE := Lib.hid hT.each
  clear hT
  go_enter Tryd.func38, Tryd.ntmps38
  go_upto_region 3 with fail
  refine wp_region_st 10 Nothing [Is (.pointer (some ⟨p, 0, none⟩)), Is (.pointer (some ⟨p, 0, none⟩)), Is (.pointer (some ⟨p, 0, none⟩)), Is (.slice A n c), PathD w n ds, Is (.pointer (some ⟨p, 0, none⟩)), Is (.pointer (some ⟨p, 0, none⟩)), Is (.pointer (some ⟨p, 1, none⟩)), Is (.map mb), MapF w ds (partC n)] [] (fun _ => True) (fun _ _ => false) (by kernel_rfl) (by kernel_rfl) (by kernel_rfl) (by kernel_rfl) ⟨Is.stable _, Is.stable _, Is.stable _, Is.stable _, PathD.stable, Is.stable _, Is.stable _, Is.stable _, Is.stable _, MapF.stable, trivial⟩ trivial (fun _ _ _ _ h => h) trivial ?_ ?_
  · refine ⟨fun u w' d hf hR k1 k0 kM => ?_, fun u w' d hf hR k1 k0 kM => ?_, fun u w' d hf hR k1 k0 kM => ?_, fun u w' d hf hR k1 k0 kM => ?_, fun u w' d hf hR k1 k0 kM => ?_, fun u w' d hf hR k1 k0 kM => ?_, fun u w' d hf hR k1 k0 kM => ?_, fun u w' d hf hR k1 k0 kM => ?_, fun u w' d hf hR k1 k0 kM => ?_, fun u w' d hf hR k1 k0 kM => ?_, trivial⟩
    all_goals simp only [List.take_succ_cons, List.take_zero, List.map_cons, List.map_nil, puts, Act.put, List.setIfInBounds_toArray, List.set_cons_zero, List.set_cons_succ, Nat.reduceAdd, Nat.zero_add]
    · clear hR k1 k0 kM
      refine .inl ⟨by kernel_rfl, ?_⟩
      go_simp
      exact ⟨_, rfl, Fr.refl _ _, rfl, trivial⟩
    · have h0 : u 0 = _ := hR 0 (by kernel_rfl)
      clear hR k1 k0 kM
      simp only [h0]
      refine .inl ⟨by kernel_rfl, ?_⟩
      go_simp
      exact ⟨_, rfl, Fr.refl _ _, rfl, trivial⟩
    · have h1 : u 1 = _ := hR 1 (by kernel_rfl)
      clear hR k1 k0 kM
      simp only [h1]
      refine .inl ⟨by kernel_rfl, ?_⟩
      go_simp
      exact ⟨_, rfl, Fr.refl _ _, rfl, trivial⟩
    · have h2 : u 2 = _ := hR 2 (by kernel_rfl)
      clear hR k1 k0 kM
      simp only [h2]
      refine .inl ⟨by kernel_rfl, ?_⟩
      have hc : w'.cell? ⟨p, 0, none⟩ = some (.slice A n c) := hf.cellSome P0.out (fun x => x)
      go_simp
      exact ⟨_, rfl, Fr.refl _ _, rfl, trivial⟩
    · have h3 : u 3 = _ := hR 3 (by kernel_rfl)
      clear hR k1 k0 kM
      simp only [h3]
      refine .inl ⟨by kernel_rfl, ?_⟩
      go_simp
      refine (CS.out _ hf).mono ?_
      rintro e w4 ⟨v, rfl, hG⟩
      exact ⟨_, rfl, hG.fr0.weak, ⟨_, rfl, Grew.ahead hf hG⟩, trivial⟩
    · clear hR k1 k0 kM
      refine .inl ⟨by kernel_rfl, ?_⟩
      go_simp
      exact ⟨_, rfl, Fr.refl _ _, rfl, trivial⟩
    · have h5 : u 5 = _ := hR 5 (by kernel_rfl)
      clear hR k1 k0 kM
      simp only [h5]
      refine .inl ⟨by kernel_rfl, ?_⟩
      go_simp
      exact ⟨_, rfl, Fr.refl _ _, rfl, trivial⟩
    · have h6 : u 6 = _ := hR 6 (by kernel_rfl)
      clear hR k1 k0 kM
      simp only [h6]
      refine .inl ⟨by kernel_rfl, ?_⟩
      go_simp
      exact ⟨_, rfl, Fr.refl _ _, rfl, trivial⟩
    · have h7 : u 7 = _ := hR 7 (by kernel_rfl)
      clear hR k1 k0 kM
      simp only [h7]
      refine .inl ⟨by kernel_rfl, ?_⟩
      have hc : w'.cell? ⟨p, 1, none⟩ = some (.map mb) := hf.cellSome P1.out (fun x => x)
      go_simp
      exact ⟨_, rfl, Fr.refl _ _, rfl, trivial⟩
    · have h8 : u 8 = _ := hR 8 (by kernel_rfl)
      clear hR k1 k0 kM
      simp only [h8]
      refine .inl ⟨by kernel_rfl, ?_⟩
      go_simp
      refine (CM.out _ hf).mono ?_
      rintro e w4 ⟨mb2, rfl, hM, f4⟩
      exact ⟨_, rfl, f4.weak, ⟨_, rfl, hM⟩, trivial⟩
  · intro u w' hf hR kM
    obtain ⟨v1, hv1, hG1⟩ : PathD w n ds (u 4) w' := hR 4 (by omega)
    obtain ⟨mb2, hmb2, hM2⟩ : MapF w ds (partC n) (u 9) w' := hR 9 (by omega)
    clear hR kM
    have G2 := Lib.hid hG1
    have M2 := Lib.hid hM2
    have F2 := Lib.hid hf
    obtain ⟨A1, n1, c1, rfl, H1, _⟩ := own_slice hG1.own
    clear hG1 hM2 hf
    simp only [List.take_succ_cons, List.take_zero, List.map_cons, List.map_nil, puts, Act.put, List.setIfInBounds_toArray, List.set_cons_zero, List.set_cons_succ, List.drop_succ_cons, List.drop_zero, Nat.reduceAdd, Nat.zero_add, hv1, hmb2]
    go_wp2_with (refine wpList_boxBlk rfl 102 (.tmp 15) rfl #[.slice A1 n1 c1, .map mb2] rfl ?_)
    intro w3 n3
    have N3 := Lib.hid n3
    clear n3
    generalize hg : w'.heap.size = g at *
    have HGg := Lib.hid hg
    clear hg
    go_wp2
    go_ret
    have hn1 : n1 = n := H1.out
    subst hn1
    have hnl : ds.length = n1 := HL.out
    subst hnl
    refine ⟨_, rfl, A1, c1, mb2, ⟨by have h := N3.out.blk; rw [HGg.out] at h; exact h, own_fr G2.out.own N3.out.fr (fun _ _ x => x), rfl, HE.out, ?_⟩, F2.out.trans N3.out.fr, fun k hk => ?_⟩
    · rcases M2.out.fr N3.out.fr with ⟨b, h1, h2, _⟩ | h
      · exact .inl ⟨b, h1, h2⟩
      · exact .inr h
    · rcases hk with rfl | hk | hk
      · have h1 := HGg.out
        have h2 := F2.out.size
        omega
      · rcases M2.out with ⟨b, h1, _, h3⟩ | ⟨h1, _⟩
        · rw [h1] at hk
          cases hk
          exact h3
        · rw [h1] at hk
          cases hk
      · exact G2.out.new k hk
theorem Clone_any (w0 w : World) (p : Nat) (ds : List (List UInt8)) (hT : TreeN w0 w p ds) (hn : ds.length ≤ 1048576) :
    Calls Tryd.prog 38 #[.pointer (some ⟨p, 0, none⟩)] w (fun e w' => ∃ g, e = .returned (.pointer (some ⟨g, 0, none⟩)) ∧ TreeN w w' g ds) := by
  obtain ⟨A, c, mb, h1, _⟩ := hT
  exact Clone_at w p A ds.length c mb ds h1 hn

/-! ### Truncate -/
set_option maxRecDepth 100000 in
set_option maxHeartbeats 2000000 in
theorem Truncate_out (w : World) (p : Nat) (A : Option Addr) (n c : Nat) (mb : Option Nat) (ds : List (List UInt8)) (C : Nat → Nat → Prop) (k : Int) (hT : TreeC w p A n c mb ds C) (hk : ¬ (0 ≤ k ∧ k ≤ n)) :
    Calls Tryd.prog 40 #[.pointer (some ⟨p, 0, none⟩), .int .i64 k] w (Same' w (.int .i64 2)) := by
  have CW : Hid (∀ w', Calls Tryd.prog 52 #[.int .i64 k, .int .i64 0, .int .i64 n] w' (SameW w' (.bool false))) := fun w' => by
    have h := within_any k 0 n w'
    rw [decide_eq_false hk] at h
    exact h
  have P00 : Hid (w.cell? ⟨p, 0, none⟩ = some (.slice A n c)) := hT.blk.cell 0
  clear hT hk
  go_enter Tryd.func40, Tryd.ntmps40
  go_wp2_with (refine wpList_boxBlk rfl 3 (.tmp 1) rfl #[.int .i64 k] rfl ?_)
  intro wb nb
  have FB := Lib.hid nb.fr
  have GB := Lib.hid nb.blk
  have LB : Hid (w.heap.size < wb.heap.size) := nb.blk.lt
  clear nb
  generalize hg3 : w.heap.size = g3 at *
  have HG3 := Lib.hid hg3
  clear hg3
  have G0 : Hid (wb.cell? ⟨g3, 0, none⟩ = some (.int .i64 k)) := GB.out.cell 0
  have P0 : Hid (wb.cell? ⟨p, 0, none⟩ = some (.slice A n c)) := FB.out.cellSome P00.out (fun x => x)
  go_upto_region 3 with fail
  refine wp_region_st 9 Nothing [Is (.int .i64 k), Is (.pointer (some ⟨p, 0, none⟩)), Is (.pointer (some ⟨p, 0, none⟩)), Is (.pointer (some ⟨p, 0, none⟩)), Is (.slice A n c), Is (.int .i64 n), Is (.bool false), Is (.bool true), Is (.bool true)] [] (fun _ => True) (fun _ _ => false) (by kernel_rfl) (by kernel_rfl) (by kernel_rfl) (by kernel_rfl) ⟨Is.stable _, Is.stable _, Is.stable _, Is.stable _, Is.stable _, Is.stable _, Is.stable _, Is.stable _, Is.stable _, trivial⟩ trivial (fun _ _ _ _ h => h) trivial ?_ ?_
  · refine ⟨fun u w' d hf hR k1 k0 kM => ?_, fun u w' d hf hR k1 k0 kM => ?_, fun u w' d hf hR k1 k0 kM => ?_, fun u w' d hf hR k1 k0 kM => ?_, fun u w' d hf hR k1 k0 kM => ?_, fun u w' d hf hR k1 k0 kM => ?_, fun u w' d hf hR k1 k0 kM => ?_, fun u w' d hf hR k1 k0 kM => ?_, fun u w' d hf hR k1 k0 kM => ?_, trivial⟩
    all_goals simp only [List.take_succ_cons, List.take_zero, List.map_cons, List.map_nil, puts, Act.put, List.setIfInBounds_toArray, List.set_cons_zero, List.set_cons_succ, Nat.reduceAdd, Nat.zero_add]
    · clear hR k1 k0 kM
      refine .inl ⟨by kernel_rfl, ?_⟩
      have hc : w'.cell? ⟨g3, 0, none⟩ = some (.int .i64 k) := hf.cellSome G0.out (fun x => x)
      go_simp
      exact ⟨_, rfl, Fr.refl _ _, rfl, trivial⟩
    · clear hR k1 k0 kM
      refine .inl ⟨by kernel_rfl, ?_⟩
      go_simp
      exact ⟨_, rfl, Fr.refl _ _, rfl, trivial⟩
    · have h1 : u 1 = _ := hR 1 (by kernel_rfl)
      clear hR k1 k0 kM
      simp only [h1]
      refine .inl ⟨by kernel_rfl, ?_⟩
      go_simp
      exact ⟨_, rfl, Fr.refl _ _, rfl, trivial⟩
    · have h2 : u 2 = _ := hR 2 (by kernel_rfl)
      clear hR k1 k0 kM
      simp only [h2]
      refine .inl ⟨by kernel_rfl, ?_⟩
      go_simp
      exact ⟨_, rfl, Fr.refl _ _, rfl, trivial⟩
    · have h3 : u 3 = _ := hR 3 (by kernel_rfl)
      clear hR k1 k0 kM
      simp only [h3]
      refine .inl ⟨by kernel_rfl, ?_⟩
      have hc : w'.cell? ⟨p, 0, none⟩ = some (.slice A n c) := hf.cellSome P0.out (fun x => x)
      go_simp
      exact ⟨_, rfl, Fr.refl _ _, rfl, trivial⟩
    · have h4 : u 4 = _ := hR 4 (by kernel_rfl)
      clear hR k1 k0 kM
      simp only [h4]
      refine .inl ⟨by kernel_rfl, ?_⟩
      go_simp
      exact ⟨_, rfl, Fr.refl _ _, rfl, trivial⟩
    · have h0 : u 0 = _ := hR 0 (by kernel_rfl)
      have h5 : u 5 = _ := hR 5 (by kernel_rfl)
      clear hR k1 k0 kM
      simp only [h0, h5]
      refine .inl ⟨by kernel_rfl, ?_⟩
      go_simp
      refine (CW.out _).mono ?_
      rintro e w4 ⟨rfl, rfl⟩
      exact ⟨_, rfl, Fr.refl _ _, rfl, trivial⟩
    · have h6 : u 6 = _ := hR 6 (by kernel_rfl)
      clear hR k1 k0 kM
      simp only [h6]
      refine .inl ⟨by kernel_rfl, ?_⟩
      go_simp
      exact ⟨_, rfl, Fr.refl _ _, rfl, trivial⟩
    · have h7 : u 7 = _ := hR 7 (by kernel_rfl)
      clear hR k1 k0 kM
      simp only [h7]
      refine .inl ⟨by kernel_rfl, ?_⟩
      go_simp
      exact ⟨_, rfl, Fr.refl _ _, rfl, trivial⟩
  · intro u w' hf hR kM
    have h8 : u 8 = _ := hR 8 (by omega)
    clear hR kM
    simp only [List.take_succ_cons, List.take_zero, List.map_cons, List.map_nil, puts, Act.put, List.setIfInBounds_toArray, List.set_cons_zero, List.set_cons_succ, List.drop_succ_cons, List.drop_zero, Nat.reduceAdd, Nat.zero_add, h8]
    have FE := Lib.hid (FB.out.trans hf)
    clear hf
    go_wp2
    go_ret
    exact ⟨rfl, FE.out⟩

def Cut (w : World) (p : Nat) (A : Option Addr) (n c : Nat) (mb : Option Nat) (ds : List (List UInt8)) (k : Nat) (e : Ending) (w' : World) : Prop :=
  e = .returned (.int .i64 0) ∧ ∃ A1 c1, TreeC w' p A1 k c1 mb (ds.take k) (partC k) ∧ Fr (TB p A n c mb) w w' ∧ ∀ i, (Value.slice A1 k c1).ownBlock = some i → w.heap.size ≤ i
theorem infoSD' : (Tryd.prog.info? 29).map (·.size) = some 1 := by kernel_rfl

set_option maxRecDepth 100000 in
set_option maxHeartbeats 4000000 in
theorem Truncate_in (w : World) (p : Nat) (A : Option Addr) (n c : Nat) (mb : Option Nat) (ds : List (List UInt8)) (k : Nat) (hT : TreeC w p A n c mb ds (partC n)) (hn : n ≤ 1048576) (hk : k ≤ n) (hnc : n ≤ c) :
    Calls Tryd.prog 40 #[.pointer (some ⟨p, 0, none⟩), .int .i64 k] w (Cut w p A n c mb ds k) := by
  have CW : Hid (∀ w', Calls Tryd.prog 52 #[.int .i64 k, .int .i64 0, .int .i64 n] w' (SameW w' (.bool true))) := fun w' => by
    have h := within_any k 0 n w'
    rw [decide_eq_true (by omega)] at h
    exact h
  have CS : Hid (∀ w', Fr Nothing w w' → Calls Tryd.prog 64 #[.slice A k c] w' (Owned w' k (ds.take k))) := fun w' hf => slClone_any k (ds.take k) A c _ w' ((hT.dig.take hk).fr0 hf) (by omega)
  have P00 : Hid (w.cell? ⟨p, 0, none⟩ = some (.slice A n c)) := hT.blk.cell 0
  have HT := Lib.hid hT
  have HK := Lib.hid hk
  have HNC := Lib.hid hnc
  have k4 : k ≤ 1048576 := by omega
  clear hT hnc
  go_enter Tryd.func40, Tryd.ntmps40
  go_wp2_with (refine wpList_boxBlk rfl 3 (.tmp 1) rfl #[.int .i64 k] rfl ?_)
  intro wb nb
  have FB := Lib.hid nb.fr
  have GB := Lib.hid nb.blk
  have LB : Hid (w.heap.size < wb.heap.size) := nb.blk.lt
  clear nb
  generalize hg3 : w.heap.size = g3 at *
  have HG3 := Lib.hid hg3
  clear hg3
  have G0 : Hid (wb.cell? ⟨g3, 0, none⟩ = some (.int .i64 k)) := GB.out.cell 0
  have P0 : Hid (wb.cell? ⟨p, 0, none⟩ = some (.slice A n c)) := FB.out.cellSome P00.out (fun x => x)
  go_upto_region 3 with fail
  refine wp_region_st 9 Nothing [Is (.int .i64 k), Is (.pointer (some ⟨p, 0, none⟩)), Is (.pointer (some ⟨p, 0, none⟩)), Is (.pointer (some ⟨p, 0, none⟩)), Is (.slice A n c), Is (.int .i64 n), Is (.bool true), Is (.bool false), Is (.bool false)] [] (fun _ => True) (fun _ _ => false) (by kernel_rfl) (by kernel_rfl) (by kernel_rfl) (by kernel_rfl) ⟨Is.stable _, Is.stable _, Is.stable _, Is.stable _, Is.stable _, Is.stable _, Is.stable _, Is.stable _, Is.stable _, trivial⟩ trivial (fun _ _ _ _ h => h) trivial ?_ ?_
  · refine ⟨fun u w' d hf hR k1 k0 kM => ?_, fun u w' d hf hR k1 k0 kM => ?_, fun u w' d hf hR k1 k0 kM => ?_, fun u w' d hf hR k1 k0 kM => ?_, fun u w' d hf hR k1 k0 kM => ?_, fun u w' d hf hR k1 k0 kM => ?_, fun u w' d hf hR k1 k0 kM => ?_, fun u w' d hf hR k1 k0 kM => ?_, fun u w' d hf hR k1 k0 kM => ?_, trivial⟩
    all_goals simp only [List.take_succ_cons, List.take_zero, List.map_cons, List.map_nil, puts, Act.put, List.setIfInBounds_toArray, List.set_cons_zero, List.set_cons_succ, Nat.reduceAdd, Nat.zero_add]
    · clear hR k1 k0 kM
      refine .inl ⟨by kernel_rfl, ?_⟩
      have hc : w'.cell? ⟨g3, 0, none⟩ = some (.int .i64 k) := hf.cellSome G0.out (fun x => x)
      go_simp
      exact ⟨_, rfl, Fr.refl _ _, rfl, trivial⟩
    · clear hR k1 k0 kM
      refine .inl ⟨by kernel_rfl, ?_⟩
      go_simp
      exact ⟨_, rfl, Fr.refl _ _, rfl, trivial⟩
    · have h1 : u 1 = _ := hR 1 (by kernel_rfl)
      clear hR k1 k0 kM
      simp only [h1]
      refine .inl ⟨by kernel_rfl, ?_⟩
      go_simp
      exact ⟨_, rfl, Fr.refl _ _, rfl, trivial⟩
    · have h2 : u 2 = _ := hR 2 (by kernel_rfl)
      clear hR k1 k0 kM
      simp only [h2]
      refine .inl ⟨by kernel_rfl, ?_⟩
      go_simp
      exact ⟨_, rfl, Fr.refl _ _, rfl, trivial⟩
    · have h3 : u 3 = _ := hR 3 (by kernel_rfl)
      clear hR k1 k0 kM
      simp only [h3]
      refine .inl ⟨by kernel_rfl, ?_⟩
      have hc : w'.cell? ⟨p, 0, none⟩ = some (.slice A n c) := hf.cellSome P0.out (fun x => x)
      go_simp
      exact ⟨_, rfl, Fr.refl _ _, rfl, trivial⟩
    · have h4 : u 4 = _ := hR 4 (by kernel_rfl)
      clear hR k1 k0 kM
      simp only [h4]
      refine .inl ⟨by kernel_rfl, ?_⟩
      go_simp
      exact ⟨_, rfl, Fr.refl _ _, rfl, trivial⟩
    · have h0 : u 0 = _ := hR 0 (by kernel_rfl)
      have h5 : u 5 = _ := hR 5 (by kernel_rfl)
      clear hR k1 k0 kM
      simp only [h0, h5]
      refine .inl ⟨by kernel_rfl, ?_⟩
      go_simp
      refine (CW.out _).mono ?_
      rintro e w4 ⟨rfl, rfl⟩
      exact ⟨_, rfl, Fr.refl _ _, rfl, trivial⟩
    · have h6 : u 6 = _ := hR 6 (by kernel_rfl)
      clear hR k1 k0 kM
      simp only [h6]
      refine .inl ⟨by kernel_rfl, ?_⟩
      go_simp
      exact ⟨_, rfl, Fr.refl _ _, rfl, trivial⟩
    · have h7 : u 7 = _ := hR 7 (by kernel_rfl)
      clear hR k1 k0 kM
      simp only [h7]
      refine .inl ⟨by kernel_rfl, ?_⟩
      go_simp
      exact ⟨_, rfl, Fr.refl _ _, rfl, trivial⟩
  · intro u w' hf hR kM
    have h8 : u 8 = _ := hR 8 (by omega)
    clear hR kM
    simp only [List.take_succ_cons, List.take_zero, List.map_cons, List.map_nil, puts, Act.put, List.setIfInBounds_toArray, List.set_cons_zero, List.set_cons_succ, List.drop_succ_cons, List.drop_zero, Nat.reduceAdd, Nat.zero_add, h8]
    generalize w' = w1 at *
    have F01 := Lib.hid hf
    clear hf
    have F1 := Lib.hid (FB.out.trans F01.out)
    have Q0 : Hid (w1.cell? ⟨p, 0, none⟩ = some (.slice A n c)) := F01.out.cellSome P0.out (fun x => x)
    have H0 : Hid (w1.cell? ⟨g3, 0, none⟩ = some (.int .i64 (k : Int))) := F01.out.cellSome G0.out (fun x => x)
    have GB1 := Lib.hid (GB.out.fr F01.out (fun x => x))
    have T1 := Lib.hid (HT.out.fr0 F1.out)
    have S1 : Hid (g3 < w1.heap.size) := GB1.out.lt
    have b1 : (k : Int) ≤ (c : Int) := by have q1 := HK.out; have q2 := HNC.out; omega
    have b2 : (k : Int) ≤ (n : Int) := by omega
    have b4 : (n : Int) ≤ (c : Int) := by have q2 := HNC.out; omega
    clear P0 G0 P00 F01 FB GB hk CW
    go_upto_region 5 with fail
    refine wp_region_st 8 Nothing [Is (.pointer (some ⟨p, 0, none⟩)), Is (.pointer (some ⟨p, 0, none⟩)), Is (.pointer (some ⟨p, 0, none⟩)), Is (.pointer (some ⟨p, 0, none⟩)), Is (.slice A n c), Is (.int .i64 k), Is (.slice A k c), PathD w1 k (ds.take k)] [] (fun _ => True) (fun _ _ => false) (by kernel_rfl) (by kernel_rfl) (by kernel_rfl) (by kernel_rfl) ⟨Is.stable _, Is.stable _, Is.stable _, Is.stable _, Is.stable _, Is.stable _, Is.stable _, PathD.stable, trivial⟩ trivial (fun _ _ _ _ h => h) trivial ?_ ?_
    · refine ⟨fun u w' d hf hR k1 k0 kM => ?_, fun u w' d hf hR k1 k0 kM => ?_, fun u w' d hf hR k1 k0 kM => ?_, fun u w' d hf hR k1 k0 kM => ?_, fun u w' d hf hR k1 k0 kM => ?_, fun u w' d hf hR k1 k0 kM => ?_, fun u w' d hf hR k1 k0 kM => ?_, fun u w' d hf hR k1 k0 kM => ?_, trivial⟩
      all_goals simp only [List.take_succ_cons, List.take_zero, List.map_cons, List.map_nil, puts, Act.put, List.setIfInBounds_toArray, List.set_cons_zero, List.set_cons_succ, Nat.reduceAdd, Nat.zero_add]
      · clear hR k1 k0 kM
        refine .inl ⟨by kernel_rfl, ?_⟩
        go_simp
        exact ⟨_, rfl, Fr.refl _ _, rfl, trivial⟩
      · clear hR k1 k0 kM
        refine .inl ⟨by kernel_rfl, ?_⟩
        go_simp
        exact ⟨_, rfl, Fr.refl _ _, rfl, trivial⟩
      · have h1 : u 1 = _ := hR 1 (by kernel_rfl)
        clear hR k1 k0 kM
        simp only [h1]
        refine .inl ⟨by kernel_rfl, ?_⟩
        go_simp
        exact ⟨_, rfl, Fr.refl _ _, rfl, trivial⟩
      · have h2 : u 2 = _ := hR 2 (by kernel_rfl)
        clear hR k1 k0 kM
        simp only [h2]
        refine .inl ⟨by kernel_rfl, ?_⟩
        go_simp
        exact ⟨_, rfl, Fr.refl _ _, rfl, trivial⟩
      · have h3 : u 3 = _ := hR 3 (by kernel_rfl)
        clear hR k1 k0 kM
        simp only [h3]
        refine .inl ⟨by kernel_rfl, ?_⟩
        have hc : w'.cell? ⟨p, 0, none⟩ = some (.slice A n c) := hf.cellSome Q0.out (fun x => x)
        go_simp
        exact ⟨_, rfl, Fr.refl _ _, rfl, trivial⟩
      · clear hR k1 k0 kM
        refine .inl ⟨by kernel_rfl, ?_⟩
        have hc : w'.cell? ⟨g3, 0, none⟩ = some (.int .i64 k) := hf.cellSome H0.out (fun x => x)
        go_simp
        exact ⟨_, rfl, Fr.refl _ _, rfl, trivial⟩
      · have h4 : u 4 = _ := hR 4 (by kernel_rfl)
        have h5 : u 5 = _ := hR 5 (by kernel_rfl)
        clear hR k1 k0 kM
        simp only [h4, h5]
        refine .inl ⟨by kernel_rfl, ?_⟩
        go_simp
        exact ⟨_, rfl, Fr.refl _ _, rfl, trivial⟩
      · have h6 : u 6 = _ := hR 6 (by kernel_rfl)
        clear hR k1 k0 kM
        simp only [h6]
        refine .inl ⟨by kernel_rfl, ?_⟩
        go_simp
        refine (CS.out _ (F1.out.trans hf)).mono ?_
        rintro e w4 ⟨v, rfl, hG⟩
        exact ⟨_, rfl, hG.fr0.weak, ⟨_, rfl, Grew.ahead hf hG⟩, trivial⟩
    · intro u w' hf hR kM
      obtain ⟨v1, hv1, hG1⟩ : PathD w1 k (ds.take k) (u 7) w' := hR 7 (by omega)
      have h0 : u 0 = _ := hR 0 (by omega)
      clear hR kM
      have G2 := Lib.hid hG1
      have F2 := Lib.hid hf
      obtain ⟨A1, n1, c1, rfl, H1, _⟩ := own_slice hG1.own
      have hn1 : n1 = k := H1.out
      subst hn1
      clear hG1 hf H1
      simp only [List.take_succ_cons, List.take_zero, List.map_cons, List.map_nil, puts, Act.put, List.setIfInBounds_toArray, List.set_cons_zero, List.set_cons_succ, List.drop_succ_cons, List.drop_zero, Nat.reduceAdd, Nat.zero_add, hv1, h0]
      have T2 := Lib.hid (T1.out.fr0 F2.out)
      have GB2 := Lib.hid (GB1.out.fr F2.out (fun x => x))
      go_wp2_with (refine wpList_storeOne rfl 29 (.tmp 26) _ rfl p 0 (.slice A1 n1 c1) rfl rfl rfl infoSD' 102 #[.slice A n c, .map mb] #[.slice A1 n1 c1, .map mb] T2.out.blk (show 0 < 2 by decide) rfl ?_)
      intro w3 b3 f3
      have B3 := Lib.hid b3
      have HPG : Hid (g3 ≠ p) := GB2.out.ne_ T2.out.blk (by decide)
      have GB3 := Lib.hid (GB2.out.fr f3 (fun e => HPG.out e))
      have R3 : Hid (w3.ownsRow 0 24 32 (.slice A1 n1 c1) n1 ((ds.take n1).flatMap digC)) := own_fr G2.out.own f3 (fun i hi e => by have e' : i = p := e; have q1 := G2.out.new i hi; have q2 := T1.out.blk.lt; omega)
      have NR : Hid (∀ i, (Value.slice A1 n1 c1).ownBlock = some i → w.heap.size ≤ i) := fun i hi => Nat.le_trans F1.out.size (G2.out.new i hi)
      have F3 : Hid (Fr (TB p A n c mb) w w3) := ((F1.out.trans F2.out).weak).trans (f3.mono (fun i _ e => .inl e))
      have LL : Hid (ds.length = n ∧ (∀ d ∈ ds, d.length = 32)) := ⟨HT.out.len, HT.out.each⟩
      have M3 : Hid ((∃ b, mb = some b ∧ PartM w3 b ds (partC n)) ∨ (mb = none ∧ ∀ l i, ¬ partC n l i)) := by
        rcases T2.out.parts with ⟨b, h1, h2⟩ | h
        · exact .inl ⟨b, h1, h2.fr f3 (fun e => by have e' : b = p := e; exact h2.ne_blk T2.out.blk e')⟩
        · exact .inr h
      have c1' : w3.cell? ⟨p, 1, none⟩ = some (.map mb) := B3.out.cell 1
      clear b3 f3 T2 GB2 G2 F2 T1 GB1 Q0 H0 HT CS F1 HK HNC
      rcases M3.out with ⟨b, rfl, hM⟩ | ⟨rfl, h0'⟩
      · have HMB := Lib.hid hM
        clear hM M3
        have CD : Hid (∀ w', PartM w' b ds (partC n) → Blk w' g3 3 #[.int .i64 (n1 : Int)] → Calls Tryd.prog 67 #[.map (some b), .func (.func 68) #[] #[.pointer (some ⟨g3, 0, none⟩)]] w' (fun e w'' => e = .returned (.tuple #[]) ∧ PartM w'' b ds (fun l i => partC n l i ∧ (i + 1) * 2 ^ l ≤ n1) ∧ Fr (fun k => k = b) w' w'')) := fun w' h1 h2 => delFunc_any b n1 n g3 ds w' h1 h2 hn k4 LL.out.1 LL.out.2
        go_wp2_with fail
        refine (CD.out _ HMB.out GB3.out).mono ?_
        rintro e w4 ⟨rfl, hM4, f4⟩
        have M4 := Lib.hid (hM4.take (by omega))
        have F4 := Lib.hid (F3.out.trans (f4.mono (fun i _ e => by have e' : i = b := e; exact .inr (.inl (by rw [e'])))))
        have B4 := Lib.hid (B3.out.fr f4 (fun e => by have e' : p = b := e; exact HMB.out.ne_blk B3.out e'.symm))
        have R4 := Lib.hid (own_fr R3.out f4 (fun i hi e => by have e' : i = b := e; exact HMB.out.ne_own R3.out (by rw [← e']; exact hi)))
        clear hM4 f4 CD
        go_wp2
        go_ret
        exact ⟨rfl, A1, c1, ⟨B4.out, R4.out, by rw [List.length_take, LL.out.1]; omega, fun d hd => LL.out.2 d (List.mem_of_mem_take hd), .inl ⟨b, rfl, M4.out⟩⟩, F4.out, NR.out⟩
      · have HNO := Lib.hid h0'
        clear h0' M3
        have CD : Hid (∀ w', Calls Tryd.prog 67 #[.map none, .func (.func 68) #[] #[.pointer (some ⟨g3, 0, none⟩)]] w' (fun e w'' => e = .returned (.tuple #[]) ∧ Fr Nothing w' w'')) := fun w' => delFunc_nil _ w'
        go_wp2_with fail
        refine (CD.out _).mono ?_
        rintro e w4 ⟨rfl, f4⟩
        have F4 := Lib.hid (F3.out.trans f4.weak)
        have B4 := Lib.hid (B3.out.fr f4 (fun x => x))
        have R4 := Lib.hid (own_fr R3.out f4 (fun _ _ x => x))
        clear f4 CD
        go_wp2
        go_ret
        exact ⟨rfl, A1, c1, ⟨B4.out, R4.out, by rw [List.length_take, LL.out.1]; omega, fun d hd => LL.out.2 d (List.mem_of_mem_take hd), .inr ⟨rfl, fun l i h => HNO.out l i ⟨h.1, Nat.le_trans h.2 (by omega)⟩⟩⟩, F4.out, NR.out⟩
end Go.Proofs.YtkaghbpdnmigmaaDoor
