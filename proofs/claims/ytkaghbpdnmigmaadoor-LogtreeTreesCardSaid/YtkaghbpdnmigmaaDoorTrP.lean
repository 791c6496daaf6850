/- LogtreeTrees: the walk, an index below 0: written by genTrO.py. -/
import Derived.Test.YtkaghbpdnmigmaaDoorGwV
namespace Go.Proofs.YtkaghbpdnmigmaaDoor
open Go.RowKit

set_option maxRecDepth 100000 in
set_option maxHeartbeats 16000000 in
theorem trees_neg (n0 s0 b : Int) (a : Int) (ha : -9223372036854775808 ≤ a) (h : a < 0) (w : World) (hn0 : 0 ≤ n0 ∧ n0 ≤ 255) (hs0 : 0 ≤ s0 ∧ s0 ≤ 255) (hb : -9223372036854775808 ≤ b ∧ b ≤ 9223372036854775807) (hT : ShaTab w) : Calls Tryd.prog 8 #[.int .u8 n0, .int .u8 s0, .agg #[.int .i64 a, .int .i64 b]] w (Same' w (.bool true)) := by
  obtain ⟨n, rfl⟩ : ∃ n : Nat, n0 = n := ⟨n0.toNat, by omega⟩
  obtain ⟨s, rfl⟩ : ∃ s : UInt8, s0 = ((s.toNat : Nat) : Int) := ⟨UInt8.ofNat s0.toNat, by rw [UInt8.toNat_ofNat']; omega⟩
  have CK : Hid (∀ w', Fr Nothing w w' → Calls Tryd.prog 15 #[] w' (Same' w' (.bool true))) := fun w' hf => known_any w' (hT.fr0 hf)
  have CL := Lib.hid (fun w' => Leaves_any n s w' (by omega))
  obtain ⟨m, hm⟩ : ∃ m, m = n % 41 := ⟨_, rfl⟩
  have hm41 : m < 41 := by omega
  rw [← hm] at CL
  have hl := leavesL_length m s
  have he := leavesL_each m s
  generalize leavesL m s = ds at *
  have HT := Lib.hid hT
  have HE := Lib.hid he
  have HL := Lib.hid hl
  clear hT hm
  have CG : Hid (∀ w' A' c' S', Fr Nothing w w' → DigL w' S' A' m ds → Calls Tryd.prog 29 #[.slice A' m c'] w' (fun e w'' => e = .returned (.tuple #[.pointer (some ⟨w'.heap.size, 0, none⟩), .bool true]) ∧ TreeN w' w'' w'.heap.size ds)) := fun w' A' c' S' hf hD => grown_any m ds A' c' S' w' hD (by omega) (HT.out.fr0 hf)
  have CRt : Hid (∀ w0 w' p, Fr Nothing w w' → TreeN w0 w' p ds → Calls Tryd.prog 32 #[.pointer (some ⟨p, 0, none⟩), .int .i64 b] w' (Same' w' (.tuple #[digV (rootV ds b).1, .int .i64 (rootV ds b).2]))) := fun w0 w' p hf hN => Root_of w0 w' p ds b hN (by omega) (HT.out.fr0 hf)
  have CIn : Hid (∀ w0 w' p, Fr Nothing w w' → TreeN w0 w' p ds → Calls Tryd.prog 30 #[.pointer (some ⟨p, 0, none⟩), .int .i64 a, .int .i64 b] w' (PathR w' (incV ds a b))) := fun w0 w' p hf hN => Include_any w0 w' p ds a b hN (by omega) (HT.out.fr0 hf) (by omega) hb
  have CEx : Hid (∀ w0 w' p, Fr Nothing w w' → TreeN w0 w' p ds → Calls Tryd.prog 33 #[.pointer (some ⟨p, 0, none⟩), .int .i64 a, .int .i64 b] w' (PathR w' (extT ds a b))) := fun w0 w' p hf hN => Extend_any w0 w' p ds a b hN (by omega) (HT.out.fr0 hf) (by omega) hb
  have CLf : Hid (∀ w0 w' p, Fr Nothing w w' → TreeN w0 w' p ds → Calls Tryd.prog 31 #[.pointer (some ⟨p, 0, none⟩), .int .i64 a] w' (Same' w' (.tuple #[digV zeroL, .int .i64 2]))) := fun w0 w' p hf hN => Leaf_out w0 w' p ds a hN (by omega) (by omega) (HT.out.fr0 hf)
  have CB : Hid (∀ (j : Nat) (pl : List (List UInt8)) w' A' c' S', j ≤ 1048576 → DigL w' S' A' j pl → Calls Tryd.prog 35 #[.slice A' j c'] w' (Owned32 w' j pl)) := fun j pl w' A' c' S' hj hD => back_any j pl A' c' S' w' hD hj
  have CSa : Hid (∀ (j : Nat) (pl : List (List UInt8)) w' A' c' S' B' d' S2, j ≤ 1048576 → DigL w' S' A' j pl → DigL w' S2 B' j pl → Calls Tryd.prog 34 #[.slice A' j c', .slice B' j d'] w' (Same' w' (.bool true))) := fun j pl w' A' c' S' B' d' S2 hj hD hE => same_any j pl A' B' c' d' S' S2 w' hD hE hj
  have CRr : Hid (∀ (j : Nat) w' A' c' S', j ≤ m → DigL w' S' A' m ds → m ≤ c' → c' ≤ 9223372036854775807 → Calls Tryd.prog 21 #[.slice A' j c'] w' (Same' w' (digV (rootE (ds.take j))))) := fun j w' A' c' S' hj hD h1 h2 => rRootE_any j (ds.take j) A' c' S' w' (hD.take hj) (by omega) (by omega) h2
  have CXr : Hid (∀ (i j : Nat) w' A' c' S', i ≤ j → j ≤ m → DigL w' S' A' m ds → m ≤ c' → c' ≤ 9223372036854775807 → Calls Tryd.prog 36 #[.slice A' j c', .int .i64 i] w' (Owned32 w' (extT ds i j).1.length (extT ds i j).1)) := fun i j w' A' c' S' hi hj hD h1 h2 => by
    have k := Extension_any j (ds.take j) A' c' i S' w' (hD.take hj) hi (by omega) (by omega) h2
    rw [(extT_take ds i j hi (by omega)).2] at k
    exact k
  have CPr : Hid (∀ (i j : Nat) w' A' c' S', i < j → j ≤ m → DigL w' S' A' m ds → m ≤ c' → c' ≤ 9223372036854775807 → Calls Tryd.prog 37 #[.slice A' j c', .int .i64 i] w' (Owned32 w' (pathL (ds.take j) i).length (pathL (ds.take j) i))) := fun i j w' A' c' S' hi hj hD h1 h2 => rpath_any j (ds.take j) A' c' S' w' i (hD.take hj) hi (by omega) (by omega) h2
  have lrv : (rootV ds b).1.length = 32 := by
    unfold rootV
    split
    · exact rootE_length b.toNat _ (by rw [List.length_take]; omega) (by omega) (fun d hd => he d (List.mem_of_mem_take hd))
    · exact zeroL_length
  have HB0 : Hid (∀ _ : ¬ (0 ≤ b ∧ b ≤ m), digC zeroL = digC (rootV ds b).1 ∧ (rootV ds b).2 = 2 ∧ incV ds a b = ([], 2) ∧ extT ds a b = ([], 2)) := fun q => by
    rw [rootV_out ds b (by rw [hl]; exact q), incV_out ds a b (by omega), extT_out ds a b (by omega)]
    exact ⟨rfl, rfl, rfl, rfl⟩
  have HB1 : Hid (∀ j : Nat, b = j → j ≤ m → digC (rootV ds b).1 = digC (rootE (ds.take j)) ∧ (rootV ds b).2 = 0) := fun j q hj => by
    rw [q, rootV_in ds j (by omega)]
    exact ⟨rfl, rfl⟩
  have HAB : Hid (∀ _ : a < 0 ∨ b < a, incV ds a b = ([], 2) ∧ extT ds a b = ([], 2)) := fun q => ⟨incV_out ds a b (by omega), extT_out ds a b (by omega)⟩
  obtain ⟨hve, hvl⟩ := incV_each ds a b (by omega) he
  have hxe := extT_each ds a b (by omega) he
  have hxl := extT_len ds a b (by omega)
  generalize hV : incV ds a b = V at *
  generalize hX : extT ds a b = X at *
  obtain ⟨VP, VE⟩ := V
  obtain ⟨XP, XE⟩ := X
  simp only at hve hvl hxe hxl
  generalize hpn : VP.length = pn at *
  generalize hqn : XP.length = qn at *
  have HPN : Hid (∀ l, l = VP → l.length = pn) := fun l h => by rw [h]; exact hpn
  have HQN : Hid (∀ l, l = XP → l.length = qn) := fun l h => by rw [h]; exact hqn
  have HVE := Lib.hid hve
  have HXE := Lib.hid hxe
  have HH := Lib.hid h
  clear hV hX hpn hqn hve hxe hl he h
  generalize (rootV ds b).2 = rf at *
  have DR : Hid (Dig (digC (rootV ds b).1).toArray) := Dig.of lrv
  have HRV : Hid ((Tryd.prog.info? 24).map (·.size) = some (digC (rootV ds b).1).length) := by rw [digC, List.length_map, lrv]; exact infoD
  have qR : Hid (∀ w : World, (binOp .neq 23 (digV (rootV ds b).1) (digV (rootV ds b).1)).run Tryd.prog w = .ok (.bool false) w) := fun w => by
    rw [run_neD w _ Tryd.underlying23 _ _ lrv lrv, decide_eq_true rfl]; rfl
  have HZV : Hid ((Tryd.prog.info? 24).map (·.size) = some (digC zeroL).length) := infoD
  have DZ : Hid (Dig (digC zeroL).toArray) := Dig.of zeroL_length
  have qZ : Hid (∀ w : World, (binOp .eql 24 (digV zeroL) (digV zeroL)).run Tryd.prog w = .ok (.bool true) w) := fun w => by
    rw [run_eqD w _ Tryd.underlying24 _ _ zeroL_length zeroL_length, decide_eq_true rfl]
  have nZ : Hid (∀ w : World, (binOp .neq 24 (digV zeroL) (digV zeroL)).run Tryd.prog w = .ok (.bool false) w) := fun w => by
    rw [run_neD w _ Tryd.underlying24 _ _ zeroL_length zeroL_length, decide_eq_true rfl]; rfl
  have BZ : Hid (Tryd.prog.built 24 [] = some (digC zeroL).toArray) := buildD0
  clear lrv
  unfold digV at *
  simp only [show ∀ l : List UInt8, l.map bvI = digC l from fun _ => rfl] at *
  generalize digC zeroL = ZV at *
  generalize digC (rootV ds b).1 = RV at *
  have ta : decide (a < 0) = true := decide_eq_true HH.out
  go_enter Tryd.func8, Tryd.ntmps8
  go_wp2_with (refine wpList_boxBlk rfl 61 (.tmp 2) rfl _ rfl ?_)
  intro wb nb
  have J5 : Hid (Blk wb w.heap.size 61 #[.int .i64 a, .int .i64 b]) := nb.blk
  have F0 := Lib.hid nb.fr
  clear nb
  generalize w.heap.size = g5 at *
  go_wp2_with fail
  refine (CK.out _ F0.out).mono ?_
  rintro e w1 ⟨rfl, ff1⟩
  have Fv2 := Lib.hid (F0.out.trans ff1)
  have J5v3 := Lib.hid (J5.out.fr ff1 (fun x => x))
  clear F0 J5 ff1
  go_wp2_with fail
  refine (CL.out _).mono ?_
  rintro e w2 ⟨v, rfl, hG⟩
  obtain ⟨A, c, rfl, hD, hcc, hcm, f2⟩ := DigL.of_grew32 hG HL.out HE.out
  have Fv4 := Lib.hid (Fv2.out.trans f2)
  have J5v5 := Lib.hid (J5v3.out.fr f2 (fun x => x))
  clear Fv2 J5v3
  have Dv6 := Lib.hid (hD)
  have HC : Hid (m ≤ c ∧ c ≤ 9223372036854775807) := ⟨hcc, hcm⟩
  have b4 : (m : Int) ≤ (c : Int) := by omega
  clear hG hD hcc hcm f2
  go_wp2_with fail
  refine (CG.out _ _ _ _ Fv4.out Dv6.out).mono ?_
  rintro e w3 ⟨rfl, hN⟩
  generalize hp : w2.heap.size = p at *
  have N3 := Lib.hid hN
  have F23 : Hid (Fr Nothing w2 w3) := by obtain ⟨_, _, _, _, h, _⟩ := hN; exact h
  have Fv7 := Lib.hid (Fv4.out.trans F23.out)
  have J5v8 := Lib.hid (J5v5.out.fr F23.out (fun x => x))
  have Dv9 := Lib.hid (Dv6.out.fr0 F23.out)
  clear Fv4 J5v5 Dv6
  clear hN hp F23 CK CL CG
  go_upto_region 7 with fail
  refine wp_region_st 5 Nothing [Is (.pointer (some ⟨g5, 0, none⟩)), Is (.int .i64 a), Is (.pointer (some ⟨g5, 1, none⟩)), Is (.int .i64 b), Is (.int .i64 a)] [] (fun _ => True) (fun _ _ => false) (by kernel_rfl) (by kernel_rfl) (by kernel_rfl) (by kernel_rfl) ⟨Is.stable _, Is.stable _, Is.stable _, Is.stable _, Is.stable _, trivial⟩ trivial (fun _ _ _ _ h => h) trivial ?_ ?_
  · refine ⟨fun u w' d hf hR k1 k0 kM => ?_, fun u w' d hf hR k1 k0 kM => ?_, fun u w' d hf hR k1 k0 kM => ?_, fun u w' d hf hR k1 k0 kM => ?_, fun u w' d hf hR k1 k0 kM => ?_, trivial⟩
    all_goals simp only [List.take_succ_cons, List.take_zero, List.map_cons, List.map_nil, puts, Act.put, List.setIfInBounds_toArray, List.set_cons_zero, List.set_cons_succ, Nat.reduceAdd, Nat.zero_add]
    · clear hR k1 k0 kM
      refine .inl ⟨by kernel_rfl, ?_⟩
      go_simp
      exact ⟨_, rfl, Fr.refl _ _, rfl, trivial⟩
    · have h0 : u 0 = _ := hR 0 (by kernel_rfl)
      clear hR k1 k0 kM
      simp only [h0]
      refine .inl ⟨by kernel_rfl, ?_⟩
      have hc := (J5v8.out.fr hf (fun x => x)).cell 0
      simp only [List.getElem?_toArray, List.getElem?_cons_zero] at hc
      go_simp
      exact ⟨_, rfl, Fr.refl _ _, rfl, trivial⟩
    · clear hR k1 k0 kM
      refine .inl ⟨by kernel_rfl, ?_⟩
      go_simp
      exact ⟨_, rfl, Fr.refl _ _, rfl, trivial⟩
    · have h2 : u 2 = _ := hR 2 (by kernel_rfl)
      clear hR k1 k0 kM
      simp only [h2]
      refine .inl ⟨by kernel_rfl, ?_⟩
      have hc := (J5v8.out.fr hf (fun x => x)).cell 1
      simp only [List.getElem?_toArray, List.getElem?_cons_zero, List.getElem?_cons_succ] at hc
      go_simp
      exact ⟨_, rfl, Fr.refl _ _, rfl, trivial⟩
    · have h1 : u 1 = _ := hR 1 (by kernel_rfl)
      clear hR k1 k0 kM
      simp only [h1]
      refine .inl ⟨by kernel_rfl, ?_⟩
      go_simp
      exact ⟨_, rfl, Fr.refl _ _, rfl, trivial⟩
  · intro u w' hf hR kM
    have h3 : u 3 = _ := hR 3 (by omega)
    have h4 : u 4 = _ := hR 4 (by omega)
    clear hR kM
    clear J5v8
    have Fv10 := Lib.hid (Fv7.out.trans hf)
    have Dv11 := Lib.hid (Dv9.out.fr0 hf)
    have Nv12 := Lib.hid (N3.out.fr0 hf)
    clear Fv7 Dv9 N3 hf
    simp only [List.take_succ_cons, List.take_zero, List.map_cons, List.map_nil, puts, Act.put, List.setIfInBounds_toArray, List.set_cons_zero, List.set_cons_succ, List.drop_succ_cons, List.drop_zero, Nat.reduceAdd, Nat.zero_add, h3, h4]
    go_wp2_with fail
    refine (CLf.out _ _ _ Fv10.out Nv12.out).mono ?_
    rintro e w4 ⟨rfl, ff13⟩
    have Fv14 := Lib.hid (Fv10.out.trans ff13)
    have Dv15 := Lib.hid (Dv11.out.fr0 ff13)
    have Nv16 := Lib.hid (Nv12.out.fr0 ff13)
    clear Fv10 Dv11 Nv12 ff13
    go_wp2_with (refine wpList_allocBlk rfl 24 rfl zero32 zvD zero32c rfl ?_)
    intro wb17_0 nn17_0
    have NB17_0 := Lib.hid nn17_0
    clear nn17_0
    generalize hg17_0 : w4.heap.size = g12 at *
    have HG17_0 := Lib.hid hg17_0
    clear hg17_0
    go_wp2_with (refine wpList_storeBlk rfl 24 (.tmp 12) _ rfl g12 ZV.toArray rfl rfl _ _ (by have h := NB17_0.out.blk; rw [HG17_0.out] at h; exact h) DZ.out.info DZ.out.zero DZ.out.one ?_)
    intro wb17_1 bb ff
    have BS17_0 := Lib.hid bb
    have FS17_0 := Lib.hid ff
    clear bb ff
    have FF17 : Hid (Fr Nothing w4 wb17_1) := (NB17_0.out.fr.then_ FS17_0.out (fun i hi e => by have e' : i = g12 := e; have q0 := HG17_0.out; have s0 := NB17_0.out.size; omega))
    have Fv18 := Lib.hid (Fv14.out.trans FF17.out)
    have Dv19 := Lib.hid (Dv15.out.fr0 FF17.out)
    have Nv20 := Lib.hid (Nv16.out.fr0 FF17.out)
    clear Fv14 Dv15 Nv16
    have J12v21 := Lib.hid (BS17_0.out)
    clear BS17_0 FS17_0 NB17_0 HG17_0 FF17
    go_wp2_with fail
    refine (CRt.out _ _ _ Fv18.out Nv20.out).mono ?_
    rintro e w6 ⟨rfl, ff22⟩
    have Fv23 := Lib.hid (Fv18.out.trans ff22)
    have Dv24 := Lib.hid (Dv19.out.fr0 ff22)
    have Nv25 := Lib.hid (Nv20.out.fr0 ff22)
    have J12v26 := Lib.hid (J12v21.out.fr ff22 (fun x => x))
    clear Fv18 Dv19 Nv20 J12v21 ff22
    go_wp2_with (refine wpList_allocBlk rfl 24 rfl zero32 zvD zero32c rfl ?_)
    intro wb27_0 nn27_0
    have NB27_0 := Lib.hid nn27_0
    clear nn27_0
    generalize hg27_0 : w6.heap.size = g14 at *
    have HG27_0 := Lib.hid hg27_0
    clear hg27_0
    go_wp2_with (refine wpList_storeBlk rfl 24 (.tmp 14) _ rfl g14 RV.toArray rfl rfl _ _ (by have h := NB27_0.out.blk; rw [HG27_0.out] at h; exact h) DR.out.info DR.out.zero DR.out.one ?_)
    intro wb27_1 bb ff
    have BS27_0 := Lib.hid bb
    have FS27_0 := Lib.hid ff
    clear bb ff
    have FF27 : Hid (Fr Nothing w6 wb27_1) := (NB27_0.out.fr.then_ FS27_0.out (fun i hi e => by have e' : i = g14 := e; have q0 := HG27_0.out; have s0 := NB27_0.out.size; omega))
    have Fv28 := Lib.hid (Fv23.out.trans FF27.out)
    have Dv29 := Lib.hid (Dv24.out.fr0 FF27.out)
    have Nv30 := Lib.hid (Nv25.out.fr0 FF27.out)
    have J12v31 := Lib.hid (J12v26.out.fr FF27.out (fun x => x))
    clear Fv23 Dv24 Nv25 J12v26
    have J14v32 := Lib.hid (BS27_0.out)
    clear BS27_0 FS27_0 NB27_0 HG27_0 FF27
    go_wp2_with fail
    refine (CIn.out _ _ _ Fv28.out Nv30.out).mono ?_
    rintro e w8 ⟨v, rfl, hG⟩
    have hG2 : Grew 24 32 wb27_1 (.slice none 0 0) w8 v pn (VP.flatMap digC) := by have h := hG; rw [show ((VP, VE).1).length = pn from HPN.out _ rfl] at h; exact h
    obtain ⟨A2, c2, rfl, hD2, _, _, ff⟩ := DigL.of_grew hG2 (HPN.out _ rfl) HVE.out
    have Fv33 := Lib.hid (Fv28.out.trans ff)
    have Dv34 := Lib.hid (Dv29.out.fr0 ff)
    have Nv35 := Lib.hid (Nv30.out.fr0 ff)
    have J12v36 := Lib.hid (J12v31.out.fr ff (fun x => x))
    have J14v37 := Lib.hid (J14v32.out.fr ff (fun x => x))
    clear Fv28 Dv29 Nv30 J12v31 J14v32
    have Pv38 := Lib.hid (hD2)
    clear hG hG2 hD2 ff
    go_wp2_with fail
    refine (CEx.out _ _ _ Fv33.out Nv35.out).mono ?_
    rintro e w9 ⟨v, rfl, hG⟩
    have hG2 : Grew 24 32 w8 (.slice none 0 0) w9 v qn (XP.flatMap digC) := by have h := hG; rw [show ((XP, XE).1).length = qn from HQN.out _ rfl] at h; exact h
    obtain ⟨A3, c3, rfl, hD2, _, _, ff⟩ := DigL.of_grew hG2 (HQN.out _ rfl) HXE.out
    have Fv39 := Lib.hid (Fv33.out.trans ff)
    have Dv40 := Lib.hid (Dv34.out.fr0 ff)
    have Nv41 := Lib.hid (Nv35.out.fr0 ff)
    have J12v42 := Lib.hid (J12v36.out.fr ff (fun x => x))
    have J14v43 := Lib.hid (J14v37.out.fr ff (fun x => x))
    have Pv44 := Lib.hid (Pv38.out.fr0 ff)
    clear Fv33 Dv34 Nv35 J12v36 J14v37 Pv38
    have Qv45 := Lib.hid (hD2)
    clear hG hG2 hD2 ff
    clear Nv41
    clear CLf CRt CIn CEx HT
    go_upto_region 13 with fail
    refine wp_region_sq 7 Nothing [Is (.agg ZV.toArray), Is (.agg ZV.toArray), Is (.bool false), Is (.bool false), Is (.int .i64 2), Is (.bool false), Is (.bool false)] [] (fun _ => True) (fun _ _ => false) (by kernel_rfl) (by kernel_rfl) (by kernel_rfl) ⟨Is.stable _, Is.stable _, Is.stable _, Is.stable _, Is.stable _, Is.stable _, Is.stable _, trivial⟩ trivial (fun _ _ _ _ h => h) trivial ?_ ?_
    · refine ⟨fun u w' d hf hR k1 k0 kM => ?_, fun u w' d hf hR k1 k0 kM => ?_, fun u w' d hf hR k1 k0 kM => ?_, fun u w' d hf hR k1 k0 kM => ?_, fun u w' d hf hR k1 k0 kM => ?_, fun u w' d hf hR k1 k0 kM => ?_, fun u w' d hf hR k1 k0 kM => ?_, trivial⟩
      all_goals simp only [List.take_succ_cons, List.take_zero, List.map_cons, List.map_nil, puts, Act.put, List.setIfInBounds_toArray, List.set_cons_zero, List.set_cons_succ, Nat.reduceAdd, Nat.zero_add]
      · clear hR k1 k0 kM
        refine .inl ⟨by kernel_rfl, ?_⟩
        exact wp_load_mid _ _ rfl g12 0 rfl ZV _ (range_blk (J12v42.out.fr hf (fun x => x))) Tryd.underlying24 rfl HZV.out ⟨_, rfl, Fr.refl _ _, rfl, trivial⟩
      · clear hR k1 k0 kM
        refine .inl ⟨by kernel_rfl, ?_⟩
        exact wp_buildZ' 24 rfl ZV.toArray BZ.out ⟨_, rfl, Fr.refl _ _, rfl, trivial⟩
      · have h0 : u 0 = _ := hR 0 (by kernel_rfl)
        have h1 : u 1 = _ := hR 1 (by kernel_rfl)
        clear hR k1 k0 kM
        simp only [h0, h1]
        refine .inl ⟨by kernel_rfl, ?_⟩
        exact wp_binAgg _ _ _ _ _ rfl _ _ rfl rfl Tryd.eqGuardType24 _ (nZ.out _) ⟨_, rfl, Fr.refl _ _, rfl, trivial⟩
      · have h2 : u 2 = _ := hR 2 (by kernel_rfl)
        clear hR k1 k0 kM
        simp only [h2]
        refine .inl ⟨by kernel_rfl, ?_⟩
        go_simp
        exact ⟨_, rfl, Fr.refl _ _, rfl, trivial⟩
      · have h3 : u 3 = _ := hR 3 (by kernel_rfl)
        clear hR k1 k0 kM
        simp only [h3]
        refine .inl ⟨by kernel_rfl, ?_⟩
        go_simp
        exact ⟨_, rfl, Fr.refl _ _, rfl, trivial⟩
      · have h4 : u 4 = _ := hR 4 (by kernel_rfl)
        have h3 : u 3 = _ := hR 3 (by kernel_rfl)
        clear hR k1 k0 kM
        simp only [h4, h3]
        refine .inl ⟨by kernel_rfl, ?_⟩
        go_simp
        exact ⟨_, rfl, Fr.refl _ _, rfl, trivial⟩
      · have h3 : u 3 = _ := hR 3 (by kernel_rfl)
        have h5 : u 5 = _ := hR 5 (by kernel_rfl)
        clear hR k1 k0 kM
        simp only [h3, h5]
        refine .inl ⟨by kernel_rfl, ?_⟩
        go_simp
        exact ⟨_, rfl, Fr.refl _ _, rfl, trivial⟩
    · intro u w' hf hR kM
      have h6 : u 6 = _ := hR 6 (by omega)
      clear hR kM
      clear J12v42
      have Fv46 := Lib.hid (Fv39.out.trans hf)
      have Dv47 := Lib.hid (Dv40.out.fr0 hf)
      have J14v48 := Lib.hid (J14v43.out.fr hf (fun x => x))
      have Pv49 := Lib.hid (Pv44.out.fr0 hf)
      have Qv50 := Lib.hid (Qv45.out.fr0 hf)
      clear Fv39 Dv40 J14v43 Pv44 Qv45 hf
      simp only [List.take_succ_cons, List.take_zero, List.map_cons, List.map_nil, puts, Act.put, List.setIfInBounds_toArray, List.set_cons_zero, List.set_cons_succ, List.drop_succ_cons, List.drop_zero, Nat.reduceAdd, Nat.zero_add, h6]
      by_cases hbi : 0 ≤ b ∧ b ≤ (m : Int)
      · obtain ⟨bN, rfl⟩ : ∃ bN : Nat, b = bN := ⟨b.toNat, by omega⟩
        have hbm : bN ≤ m := by omega
        obtain ⟨e1, rfl⟩ := HB1.out bN rfl hbm
        have HRt : Hid (∀ w' A' c' S', DigL w' S' A' m ds → m ≤ c' → c' ≤ 9223372036854775807 → Calls Tryd.prog 21 #[.slice A' bN c'] w' (Same' w' (.agg RV.toArray))) := fun w' A' c' S' hD h1 h2 => by rw [e1]; exact CRr.out bN w' A' c' S' hbm hD h1 h2
        have tb : decide ((m : Int) < (bN : Int)) = false := decide_eq_false (by omega)
        have tb2 : ¬ m < bN := by omega
        have tb3 : decide ((bN : Int) < 0) = false := decide_eq_false (by omega)
        have b1 : (bN : Int) ≤ (c : Int) := by have := HC.out; omega
        have b2 : (bN : Int) ≤ (m : Int) := by omega
        have bn4 : bN ≤ 41 := by omega
        clear hbi e1 CRr CXr CPr HB0 HB1
        go_upto_region 19 with fail
        refine wp_region_st 10 Nothing [Is (.agg RV.toArray), Is (.slice A m c), Is (.int .i64 bN), Is (.slice A bN c), Is (.agg RV.toArray), Is (.bool false), Is (.bool false), Is (.int .i64 0), Is (.bool false), Is (.bool false)] [] (fun _ => True) (fun _ _ => false) (by kernel_rfl) (by kernel_rfl) (by kernel_rfl) (by kernel_rfl) ⟨Is.stable _, Is.stable _, Is.stable _, Is.stable _, Is.stable _, Is.stable _, Is.stable _, Is.stable _, Is.stable _, Is.stable _, trivial⟩ trivial (fun _ _ _ _ h => h) trivial ?_ ?_
        · refine ⟨fun u w' d hf hR k1 k0 kM => ?_, fun u w' d hf hR k1 k0 kM => ?_, fun u w' d hf hR k1 k0 kM => ?_, fun u w' d hf hR k1 k0 kM => ?_, fun u w' d hf hR k1 k0 kM => ?_, fun u w' d hf hR k1 k0 kM => ?_, fun u w' d hf hR k1 k0 kM => ?_, fun u w' d hf hR k1 k0 kM => ?_, fun u w' d hf hR k1 k0 kM => ?_, fun u w' d hf hR k1 k0 kM => ?_, trivial⟩
          all_goals simp only [List.take_succ_cons, List.take_zero, List.map_cons, List.map_nil, puts, Act.put, List.setIfInBounds_toArray, List.set_cons_zero, List.set_cons_succ, Nat.reduceAdd, Nat.zero_add]
          · clear hR k1 k0 kM
            refine .inl ⟨by kernel_rfl, ?_⟩
            exact wp_load_mid _ _ rfl g14 0 rfl RV _ (range_blk (J14v48.out.fr hf (fun x => x))) Tryd.underlying24 rfl HRV.out ⟨_, rfl, Fr.refl _ _, rfl, trivial⟩
          · clear hR k1 k0 kM
            refine .inl ⟨by kernel_rfl, ?_⟩
            go_simp
            exact ⟨_, rfl, Fr.refl _ _, rfl, trivial⟩
          · clear hR k1 k0 kM
            refine .inl ⟨by kernel_rfl, ?_⟩
            go_simp
            exact ⟨_, rfl, Fr.refl _ _, rfl, trivial⟩
          · have h1 : u 1 = _ := hR 1 (by kernel_rfl)
            have h2 : u 2 = _ := hR 2 (by kernel_rfl)
            clear hR k1 k0 kM
            simp only [h1, h2]
            refine .inl ⟨by kernel_rfl, ?_⟩
            go_simp
            exact ⟨_, rfl, Fr.refl _ _, rfl, trivial⟩
          · have h3 : u 3 = _ := hR 3 (by kernel_rfl)
            clear hR k1 k0 kM
            simp only [h3]
            refine .inl ⟨by kernel_rfl, ?_⟩
            go_simp
            refine (HRt.out _ _ _ _ (Dv47.out.fr0 hf) HC.out.1 HC.out.2).mono ?_
            rintro e w4 ⟨rfl, f4⟩
            exact ⟨_, rfl, f4.weak, rfl, trivial⟩
          · have h0 : u 0 = _ := hR 0 (by kernel_rfl)
            have h4 : u 4 = _ := hR 4 (by kernel_rfl)
            clear hR k1 k0 kM
            simp only [h0, h4]
            refine .inl ⟨by kernel_rfl, ?_⟩
            exact wp_binAgg _ _ _ _ _ rfl _ _ rfl rfl Tryd.eqGuardType23 _ (qR.out _) ⟨_, rfl, Fr.refl _ _, rfl, trivial⟩
          · have h5 : u 5 = _ := hR 5 (by kernel_rfl)
            clear hR k1 k0 kM
            simp only [h5]
            refine .inl ⟨by kernel_rfl, ?_⟩
            go_simp
            exact ⟨_, rfl, Fr.refl _ _, rfl, trivial⟩
          · have h6 : u 6 = _ := hR 6 (by kernel_rfl)
            clear hR k1 k0 kM
            simp only [h6]
            refine .inl ⟨by kernel_rfl, ?_⟩
            go_simp
            exact ⟨_, rfl, Fr.refl _ _, rfl, trivial⟩
          · have h7 : u 7 = _ := hR 7 (by kernel_rfl)
            have h6 : u 6 = _ := hR 6 (by kernel_rfl)
            clear hR k1 k0 kM
            simp only [h7, h6]
            refine .inl ⟨by kernel_rfl, ?_⟩
            go_simp
            exact ⟨_, rfl, Fr.refl _ _, rfl, trivial⟩
          · have h6 : u 6 = _ := hR 6 (by kernel_rfl)
            have h8 : u 8 = _ := hR 8 (by kernel_rfl)
            clear hR k1 k0 kM
            simp only [h6, h8]
            refine .inl ⟨by kernel_rfl, ?_⟩
            go_simp
            exact ⟨_, rfl, Fr.refl _ _, rfl, trivial⟩
        · intro u w' hf hR kM
          have h9 : u 9 = _ := hR 9 (by omega)
          clear hR kM HRt
          clear J14v48
          have Fv51 := Lib.hid (Fv46.out.trans hf)
          have Dv52 := Lib.hid (Dv47.out.fr0 hf)
          have Pv53 := Lib.hid (Pv49.out.fr0 hf)
          have Qv54 := Lib.hid (Qv50.out.fr0 hf)
          clear Fv46 Dv47 Pv49 Qv50 hf
          simp only [List.take_succ_cons, List.take_zero, List.map_cons, List.map_nil, puts, Act.put, List.setIfInBounds_toArray, List.set_cons_zero, List.set_cons_succ, List.drop_succ_cons, List.drop_zero, Nat.reduceAdd, Nat.zero_add, h9]
          have hneg := HH.out
          obtain ⟨e2, e3⟩ := HAB.out (by omega)
          obtain ⟨rfl, rfl⟩ := Prod.mk.inj e2
          obtain ⟨rfl, rfl⟩ := Prod.mk.inj e3
          obtain rfl : 0 = pn := HPN.out _ rfl
          obtain rfl : 0 = qn := HQN.out _ rfl
          go_wp2
          go_ret
          exact ⟨rfl, Fv51.out⟩
      · obtain ⟨e1, rfl, e2, e3⟩ := HB0.out hbi
        obtain ⟨rfl, rfl⟩ := Prod.mk.inj e2
        obtain ⟨rfl, rfl⟩ := Prod.mk.inj e3
        obtain rfl := e1
        obtain rfl : 0 = pn := HPN.out _ rfl
        obtain rfl : 0 = qn := HQN.out _ rfl
        by_cases hb0 : b < 0
        · have tb : decide (b < 0) = true := decide_eq_true hb0
          go_upto_region 18 with fail
          refine wp_region_sq 24 Nothing [Is (.agg ZV.toArray), Is (.agg ZV.toArray), Is (.bool true), Is (.bool true), Is (.int .i64 2), Is (.bool true), Is (.bool true), Is (.bool true), Is (.slice A2 0 c2), Is (.int .i64 0), Is (.slice A3 0 c3), Is (.int .i64 0), Is (.int .i64 0), Is (.bool true), Is (.bool true), Is (.bool true), Is (.int .i64 2), Is (.bool true), Is (.bool true), Is (.bool true), Is (.int .i64 2), Is (.bool true), Is (.bool true), Is (.bool true)] [] (fun _ => True) (fun _ _ => false) (by kernel_rfl) (by kernel_rfl) (by kernel_rfl) ⟨Is.stable _, Is.stable _, Is.stable _, Is.stable _, Is.stable _, Is.stable _, Is.stable _, Is.stable _, Is.stable _, Is.stable _, Is.stable _, Is.stable _, Is.stable _, Is.stable _, Is.stable _, Is.stable _, Is.stable _, Is.stable _, Is.stable _, Is.stable _, Is.stable _, Is.stable _, Is.stable _, Is.stable _, trivial⟩ trivial (fun _ _ _ _ h => h) trivial ?_ ?_
          · refine ⟨fun u w' d hf hR k1 k0 kM => ?_, fun u w' d hf hR k1 k0 kM => ?_, fun u w' d hf hR k1 k0 kM => ?_, fun u w' d hf hR k1 k0 kM => ?_, fun u w' d hf hR k1 k0 kM => ?_, fun u w' d hf hR k1 k0 kM => ?_, fun u w' d hf hR k1 k0 kM => ?_, fun u w' d hf hR k1 k0 kM => ?_, fun u w' d hf hR k1 k0 kM => ?_, fun u w' d hf hR k1 k0 kM => ?_, fun u w' d hf hR k1 k0 kM => ?_, fun u w' d hf hR k1 k0 kM => ?_, fun u w' d hf hR k1 k0 kM => ?_, fun u w' d hf hR k1 k0 kM => ?_, fun u w' d hf hR k1 k0 kM => ?_, fun u w' d hf hR k1 k0 kM => ?_, fun u w' d hf hR k1 k0 kM => ?_, fun u w' d hf hR k1 k0 kM => ?_, fun u w' d hf hR k1 k0 kM => ?_, fun u w' d hf hR k1 k0 kM => ?_, fun u w' d hf hR k1 k0 kM => ?_, fun u w' d hf hR k1 k0 kM => ?_, fun u w' d hf hR k1 k0 kM => ?_, fun u w' d hf hR k1 k0 kM => ?_, trivial⟩
            all_goals simp only [List.take_succ_cons, List.take_zero, List.map_cons, List.map_nil, puts, Act.put, List.setIfInBounds_toArray, List.set_cons_zero, List.set_cons_succ, Nat.reduceAdd, Nat.zero_add]
            · clear hR k1 k0 kM
              refine .inl ⟨by kernel_rfl, ?_⟩
              exact wp_load_mid _ _ rfl g14 0 rfl ZV _ (range_blk (J14v48.out.fr hf (fun x => x))) Tryd.underlying24 rfl HZV.out ⟨_, rfl, Fr.refl _ _, rfl, trivial⟩
            · clear hR k1 k0 kM
              refine .inl ⟨by kernel_rfl, ?_⟩
              exact wp_buildZ' 24 rfl ZV.toArray BZ.out ⟨_, rfl, Fr.refl _ _, rfl, trivial⟩
            · have h0 : u 0 = _ := hR 0 (by kernel_rfl)
              have h1 : u 1 = _ := hR 1 (by kernel_rfl)
              clear hR k1 k0 kM
              simp only [h0, h1]
              refine .inl ⟨by kernel_rfl, ?_⟩
              exact wp_binAgg _ _ _ _ _ rfl _ _ rfl rfl Tryd.eqGuardType24 _ (qZ.out _) ⟨_, rfl, Fr.refl _ _, rfl, trivial⟩
            · have h2 : u 2 = _ := hR 2 (by kernel_rfl)
              clear hR k1 k0 kM
              simp only [h2]
              refine .inl ⟨by kernel_rfl, ?_⟩
              go_simp
              exact ⟨_, rfl, Fr.refl _ _, rfl, trivial⟩
            · have h3 : u 3 = _ := hR 3 (by kernel_rfl)
              clear hR k1 k0 kM
              simp only [h3]
              refine .inl ⟨by kernel_rfl, ?_⟩
              go_simp
              exact ⟨_, rfl, Fr.refl _ _, rfl, trivial⟩
            · have h4 : u 4 = _ := hR 4 (by kernel_rfl)
              have h3 : u 3 = _ := hR 3 (by kernel_rfl)
              clear hR k1 k0 kM
              simp only [h4, h3]
              refine .inl ⟨by kernel_rfl, ?_⟩
              go_simp
              exact ⟨_, rfl, Fr.refl _ _, rfl, trivial⟩
            · have h3 : u 3 = _ := hR 3 (by kernel_rfl)
              have h5 : u 5 = _ := hR 5 (by kernel_rfl)
              clear hR k1 k0 kM
              simp only [h3, h5]
              refine .inl ⟨by kernel_rfl, ?_⟩
              go_simp
              exact ⟨_, rfl, Fr.refl _ _, rfl, trivial⟩
            · have h6 : u 6 = _ := hR 6 (by kernel_rfl)
              clear hR k1 k0 kM
              simp only [h6]
              refine .inl ⟨by kernel_rfl, ?_⟩
              go_simp
              exact ⟨_, rfl, Fr.refl _ _, rfl, trivial⟩
            · have h7 : u 7 = _ := hR 7 (by kernel_rfl)
              clear hR k1 k0 kM
              simp only [h7]
              refine .inl ⟨by kernel_rfl, ?_⟩
              go_simp
              exact ⟨_, rfl, Fr.refl _ _, rfl, trivial⟩
            · have h8 : u 8 = _ := hR 8 (by kernel_rfl)
              have h7 : u 7 = _ := hR 7 (by kernel_rfl)
              clear hR k1 k0 kM
              simp only [h8, h7]
              refine .inl ⟨by kernel_rfl, ?_⟩
              go_simp
              exact ⟨_, rfl, Fr.refl _ _, rfl, trivial⟩
            · have h7 : u 7 = _ := hR 7 (by kernel_rfl)
              clear hR k1 k0 kM
              simp only [h7]
              refine .inl ⟨by kernel_rfl, ?_⟩
              go_simp
              exact ⟨_, rfl, Fr.refl _ _, rfl, trivial⟩
            · have h10 : u 10 = _ := hR 10 (by kernel_rfl)
              have h7 : u 7 = _ := hR 7 (by kernel_rfl)
              clear hR k1 k0 kM
              simp only [h10, h7]
              refine .inl ⟨by kernel_rfl, ?_⟩
              go_simp
              exact ⟨_, rfl, Fr.refl _ _, rfl, trivial⟩
            · have h9 : u 9 = _ := hR 9 (by kernel_rfl)
              have h11 : u 11 = _ := hR 11 (by kernel_rfl)
              have h7 : u 7 = _ := hR 7 (by kernel_rfl)
              clear hR k1 k0 kM
              simp only [h9, h11, h7]
              refine .inl ⟨by kernel_rfl, ?_⟩
              go_simp
              exact ⟨_, rfl, Fr.refl _ _, rfl, trivial⟩
            · have h12 : u 12 = _ := hR 12 (by kernel_rfl)
              have h7 : u 7 = _ := hR 7 (by kernel_rfl)
              clear hR k1 k0 kM
              simp only [h12, h7]
              refine .inl ⟨by kernel_rfl, ?_⟩
              go_simp
              exact ⟨_, rfl, Fr.refl _ _, rfl, trivial⟩
            · have h7 : u 7 = _ := hR 7 (by kernel_rfl)
              have h13 : u 13 = _ := hR 13 (by kernel_rfl)
              clear hR k1 k0 kM
              simp only [h7, h13]
              refine .inl ⟨by kernel_rfl, ?_⟩
              go_simp
              exact ⟨_, rfl, Fr.refl _ _, rfl, trivial⟩
            · have h14 : u 14 = _ := hR 14 (by kernel_rfl)
              clear hR k1 k0 kM
              simp only [h14]
              refine .inl ⟨by kernel_rfl, ?_⟩
              go_simp
              exact ⟨_, rfl, Fr.refl _ _, rfl, trivial⟩
            · have h15 : u 15 = _ := hR 15 (by kernel_rfl)
              clear hR k1 k0 kM
              simp only [h15]
              refine .inl ⟨by kernel_rfl, ?_⟩
              go_simp
              exact ⟨_, rfl, Fr.refl _ _, rfl, trivial⟩
            · have h16 : u 16 = _ := hR 16 (by kernel_rfl)
              have h15 : u 15 = _ := hR 15 (by kernel_rfl)
              clear hR k1 k0 kM
              simp only [h16, h15]
              refine .inl ⟨by kernel_rfl, ?_⟩
              go_simp
              exact ⟨_, rfl, Fr.refl _ _, rfl, trivial⟩
            · have h15 : u 15 = _ := hR 15 (by kernel_rfl)
              have h17 : u 17 = _ := hR 17 (by kernel_rfl)
              clear hR k1 k0 kM
              simp only [h15, h17]
              refine .inl ⟨by kernel_rfl, ?_⟩
              go_simp
              exact ⟨_, rfl, Fr.refl _ _, rfl, trivial⟩
            · have h18 : u 18 = _ := hR 18 (by kernel_rfl)
              clear hR k1 k0 kM
              simp only [h18]
              refine .inl ⟨by kernel_rfl, ?_⟩
              go_simp
              exact ⟨_, rfl, Fr.refl _ _, rfl, trivial⟩
            · have h19 : u 19 = _ := hR 19 (by kernel_rfl)
              clear hR k1 k0 kM
              simp only [h19]
              refine .inl ⟨by kernel_rfl, ?_⟩
              go_simp
              exact ⟨_, rfl, Fr.refl _ _, rfl, trivial⟩
            · have h20 : u 20 = _ := hR 20 (by kernel_rfl)
              have h19 : u 19 = _ := hR 19 (by kernel_rfl)
              clear hR k1 k0 kM
              simp only [h20, h19]
              refine .inl ⟨by kernel_rfl, ?_⟩
              go_simp
              exact ⟨_, rfl, Fr.refl _ _, rfl, trivial⟩
            · have h19 : u 19 = _ := hR 19 (by kernel_rfl)
              have h21 : u 21 = _ := hR 21 (by kernel_rfl)
              clear hR k1 k0 kM
              simp only [h19, h21]
              refine .inl ⟨by kernel_rfl, ?_⟩
              go_simp
              exact ⟨_, rfl, Fr.refl _ _, rfl, trivial⟩
            · have h22 : u 22 = _ := hR 22 (by kernel_rfl)
              clear hR k1 k0 kM
              simp only [h22]
              refine .inl ⟨by kernel_rfl, ?_⟩
              go_simp
              exact ⟨_, rfl, Fr.refl _ _, rfl, trivial⟩
          · intro u w' hf hR kM
            have h23 : u 23 = _ := hR 23 (by omega)
            clear hR kM
            simp only [List.take_succ_cons, List.take_zero, List.map_cons, List.map_nil, puts, Act.put, List.setIfInBounds_toArray, List.set_cons_zero, List.set_cons_succ, List.drop_succ_cons, List.drop_zero, Nat.reduceAdd, Nat.zero_add, h23]
            have FE := Lib.hid (Fv46.out.trans hf)
            clear hf
            go_wp2
            go_ret
            exact ⟨rfl, FE.out⟩
        · obtain ⟨bN, rfl⟩ : ∃ bN : Nat, b = bN := ⟨b.toNat, by omega⟩
          have tb : decide ((m : Int) < (bN : Int)) = true := decide_eq_true (by omega)
          have tb2 : m < bN := by omega
          have tb3 : decide ((bN : Int) < 0) = false := decide_eq_false hb0
          clear hb0 hbi
          go_upto_region 18 with fail
          refine wp_region_sq 24 Nothing [Is (.agg ZV.toArray), Is (.agg ZV.toArray), Is (.bool true), Is (.bool true), Is (.int .i64 2), Is (.bool true), Is (.bool true), Is (.bool true), Is (.slice A2 0 c2), Is (.int .i64 0), Is (.slice A3 0 c3), Is (.int .i64 0), Is (.int .i64 0), Is (.bool true), Is (.bool true), Is (.bool true), Is (.int .i64 2), Is (.bool true), Is (.bool true), Is (.bool true), Is (.int .i64 2), Is (.bool true), Is (.bool true), Is (.bool true)] [] (fun _ => True) (fun _ _ => false) (by kernel_rfl) (by kernel_rfl) (by kernel_rfl) ⟨Is.stable _, Is.stable _, Is.stable _, Is.stable _, Is.stable _, Is.stable _, Is.stable _, Is.stable _, Is.stable _, Is.stable _, Is.stable _, Is.stable _, Is.stable _, Is.stable _, Is.stable _, Is.stable _, Is.stable _, Is.stable _, Is.stable _, Is.stable _, Is.stable _, Is.stable _, Is.stable _, Is.stable _, trivial⟩ trivial (fun _ _ _ _ h => h) trivial ?_ ?_
          · refine ⟨fun u w' d hf hR k1 k0 kM => ?_, fun u w' d hf hR k1 k0 kM => ?_, fun u w' d hf hR k1 k0 kM => ?_, fun u w' d hf hR k1 k0 kM => ?_, fun u w' d hf hR k1 k0 kM => ?_, fun u w' d hf hR k1 k0 kM => ?_, fun u w' d hf hR k1 k0 kM => ?_, fun u w' d hf hR k1 k0 kM => ?_, fun u w' d hf hR k1 k0 kM => ?_, fun u w' d hf hR k1 k0 kM => ?_, fun u w' d hf hR k1 k0 kM => ?_, fun u w' d hf hR k1 k0 kM => ?_, fun u w' d hf hR k1 k0 kM => ?_, fun u w' d hf hR k1 k0 kM => ?_, fun u w' d hf hR k1 k0 kM => ?_, fun u w' d hf hR k1 k0 kM => ?_, fun u w' d hf hR k1 k0 kM => ?_, fun u w' d hf hR k1 k0 kM => ?_, fun u w' d hf hR k1 k0 kM => ?_, fun u w' d hf hR k1 k0 kM => ?_, fun u w' d hf hR k1 k0 kM => ?_, fun u w' d hf hR k1 k0 kM => ?_, fun u w' d hf hR k1 k0 kM => ?_, fun u w' d hf hR k1 k0 kM => ?_, trivial⟩
            all_goals simp only [List.take_succ_cons, List.take_zero, List.map_cons, List.map_nil, puts, Act.put, List.setIfInBounds_toArray, List.set_cons_zero, List.set_cons_succ, Nat.reduceAdd, Nat.zero_add]
            · clear hR k1 k0 kM
              refine .inl ⟨by kernel_rfl, ?_⟩
              exact wp_load_mid _ _ rfl g14 0 rfl ZV _ (range_blk (J14v48.out.fr hf (fun x => x))) Tryd.underlying24 rfl HZV.out ⟨_, rfl, Fr.refl _ _, rfl, trivial⟩
            · clear hR k1 k0 kM
              refine .inl ⟨by kernel_rfl, ?_⟩
              exact wp_buildZ' 24 rfl ZV.toArray BZ.out ⟨_, rfl, Fr.refl _ _, rfl, trivial⟩
            · have h0 : u 0 = _ := hR 0 (by kernel_rfl)
              have h1 : u 1 = _ := hR 1 (by kernel_rfl)
              clear hR k1 k0 kM
              simp only [h0, h1]
              refine .inl ⟨by kernel_rfl, ?_⟩
              exact wp_binAgg _ _ _ _ _ rfl _ _ rfl rfl Tryd.eqGuardType24 _ (qZ.out _) ⟨_, rfl, Fr.refl _ _, rfl, trivial⟩
            · have h2 : u 2 = _ := hR 2 (by kernel_rfl)
              clear hR k1 k0 kM
              simp only [h2]
              refine .inl ⟨by kernel_rfl, ?_⟩
              go_simp
              exact ⟨_, rfl, Fr.refl _ _, rfl, trivial⟩
            · have h3 : u 3 = _ := hR 3 (by kernel_rfl)
              clear hR k1 k0 kM
              simp only [h3]
              refine .inl ⟨by kernel_rfl, ?_⟩
              go_simp
              exact ⟨_, rfl, Fr.refl _ _, rfl, trivial⟩
            · have h4 : u 4 = _ := hR 4 (by kernel_rfl)
              have h3 : u 3 = _ := hR 3 (by kernel_rfl)
              clear hR k1 k0 kM
              simp only [h4, h3]
              refine .inl ⟨by kernel_rfl, ?_⟩
              go_simp
              exact ⟨_, rfl, Fr.refl _ _, rfl, trivial⟩
            · have h3 : u 3 = _ := hR 3 (by kernel_rfl)
              have h5 : u 5 = _ := hR 5 (by kernel_rfl)
              clear hR k1 k0 kM
              simp only [h3, h5]
              refine .inl ⟨by kernel_rfl, ?_⟩
              go_simp
              exact ⟨_, rfl, Fr.refl _ _, rfl, trivial⟩
            · have h6 : u 6 = _ := hR 6 (by kernel_rfl)
              clear hR k1 k0 kM
              simp only [h6]
              refine .inl ⟨by kernel_rfl, ?_⟩
              go_simp
              exact ⟨_, rfl, Fr.refl _ _, rfl, trivial⟩
            · have h7 : u 7 = _ := hR 7 (by kernel_rfl)
              clear hR k1 k0 kM
              simp only [h7]
              refine .inl ⟨by kernel_rfl, ?_⟩
              go_simp
              exact ⟨_, rfl, Fr.refl _ _, rfl, trivial⟩
            · have h8 : u 8 = _ := hR 8 (by kernel_rfl)
              have h7 : u 7 = _ := hR 7 (by kernel_rfl)
              clear hR k1 k0 kM
              simp only [h8, h7]
              refine .inl ⟨by kernel_rfl, ?_⟩
              go_simp
              exact ⟨_, rfl, Fr.refl _ _, rfl, trivial⟩
            · have h7 : u 7 = _ := hR 7 (by kernel_rfl)
              clear hR k1 k0 kM
              simp only [h7]
              refine .inl ⟨by kernel_rfl, ?_⟩
              go_simp
              exact ⟨_, rfl, Fr.refl _ _, rfl, trivial⟩
            · have h10 : u 10 = _ := hR 10 (by kernel_rfl)
              have h7 : u 7 = _ := hR 7 (by kernel_rfl)
              clear hR k1 k0 kM
              simp only [h10, h7]
              refine .inl ⟨by kernel_rfl, ?_⟩
              go_simp
              exact ⟨_, rfl, Fr.refl _ _, rfl, trivial⟩
            · have h9 : u 9 = _ := hR 9 (by kernel_rfl)
              have h11 : u 11 = _ := hR 11 (by kernel_rfl)
              have h7 : u 7 = _ := hR 7 (by kernel_rfl)
              clear hR k1 k0 kM
              simp only [h9, h11, h7]
              refine .inl ⟨by kernel_rfl, ?_⟩
              go_simp
              exact ⟨_, rfl, Fr.refl _ _, rfl, trivial⟩
            · have h12 : u 12 = _ := hR 12 (by kernel_rfl)
              have h7 : u 7 = _ := hR 7 (by kernel_rfl)
              clear hR k1 k0 kM
              simp only [h12, h7]
              refine .inl ⟨by kernel_rfl, ?_⟩
              go_simp
              exact ⟨_, rfl, Fr.refl _ _, rfl, trivial⟩
            · have h7 : u 7 = _ := hR 7 (by kernel_rfl)
              have h13 : u 13 = _ := hR 13 (by kernel_rfl)
              clear hR k1 k0 kM
              simp only [h7, h13]
              refine .inl ⟨by kernel_rfl, ?_⟩
              go_simp
              exact ⟨_, rfl, Fr.refl _ _, rfl, trivial⟩
            · have h14 : u 14 = _ := hR 14 (by kernel_rfl)
              clear hR k1 k0 kM
              simp only [h14]
              refine .inl ⟨by kernel_rfl, ?_⟩
              go_simp
              exact ⟨_, rfl, Fr.refl _ _, rfl, trivial⟩
            · have h15 : u 15 = _ := hR 15 (by kernel_rfl)
              clear hR k1 k0 kM
              simp only [h15]
              refine .inl ⟨by kernel_rfl, ?_⟩
              go_simp
              exact ⟨_, rfl, Fr.refl _ _, rfl, trivial⟩
            · have h16 : u 16 = _ := hR 16 (by kernel_rfl)
              have h15 : u 15 = _ := hR 15 (by kernel_rfl)
              clear hR k1 k0 kM
              simp only [h16, h15]
              refine .inl ⟨by kernel_rfl, ?_⟩
              go_simp
              exact ⟨_, rfl, Fr.refl _ _, rfl, trivial⟩
            · have h15 : u 15 = _ := hR 15 (by kernel_rfl)
              have h17 : u 17 = _ := hR 17 (by kernel_rfl)
              clear hR k1 k0 kM
              simp only [h15, h17]
              refine .inl ⟨by kernel_rfl, ?_⟩
              go_simp
              exact ⟨_, rfl, Fr.refl _ _, rfl, trivial⟩
            · have h18 : u 18 = _ := hR 18 (by kernel_rfl)
              clear hR k1 k0 kM
              simp only [h18]
              refine .inl ⟨by kernel_rfl, ?_⟩
              go_simp
              exact ⟨_, rfl, Fr.refl _ _, rfl, trivial⟩
            · have h19 : u 19 = _ := hR 19 (by kernel_rfl)
              clear hR k1 k0 kM
              simp only [h19]
              refine .inl ⟨by kernel_rfl, ?_⟩
              go_simp
              exact ⟨_, rfl, Fr.refl _ _, rfl, trivial⟩
            · have h20 : u 20 = _ := hR 20 (by kernel_rfl)
              have h19 : u 19 = _ := hR 19 (by kernel_rfl)
              clear hR k1 k0 kM
              simp only [h20, h19]
              refine .inl ⟨by kernel_rfl, ?_⟩
              go_simp
              exact ⟨_, rfl, Fr.refl _ _, rfl, trivial⟩
            · have h19 : u 19 = _ := hR 19 (by kernel_rfl)
              have h21 : u 21 = _ := hR 21 (by kernel_rfl)
              clear hR k1 k0 kM
              simp only [h19, h21]
              refine .inl ⟨by kernel_rfl, ?_⟩
              go_simp
              exact ⟨_, rfl, Fr.refl _ _, rfl, trivial⟩
            · have h22 : u 22 = _ := hR 22 (by kernel_rfl)
              clear hR k1 k0 kM
              simp only [h22]
              refine .inl ⟨by kernel_rfl, ?_⟩
              go_simp
              exact ⟨_, rfl, Fr.refl _ _, rfl, trivial⟩
          · intro u w' hf hR kM
            have h23 : u 23 = _ := hR 23 (by omega)
            clear hR kM
            simp only [List.take_succ_cons, List.take_zero, List.map_cons, List.map_nil, puts, Act.put, List.setIfInBounds_toArray, List.set_cons_zero, List.set_cons_succ, List.drop_succ_cons, List.drop_zero, Nat.reduceAdd, Nat.zero_add, h23]
            have FE := Lib.hid (Fv46.out.trans hf)
            clear hf
            go_wp2
            go_ret
            exact ⟨rfl, FE.out⟩
end Go.Proofs.YtkaghbpdnmigmaaDoor
