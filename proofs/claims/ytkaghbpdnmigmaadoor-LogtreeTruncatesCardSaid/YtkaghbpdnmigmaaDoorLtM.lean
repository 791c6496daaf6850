/- LogtreeRoots: the walk (written by genM.py). -/
import Derived.Test.YtkaghbpdnmigmaaDoorLtL
import Derived.Test.YtkaghbpdnmigmaaDoorGwA
namespace Go.Proofs.YtkaghbpdnmigmaaDoor
open Go.RowKit

theorem DigL.of_grew {w w' : World} {v : Value} {n : Nat} {ds : List (List UInt8)} (h : Grew 24 32 w (.slice none 0 0) w' v n (ds.flatMap digC)) (hl : ds.length = n) (he : ∀ d ∈ ds, d.length = 32) :
    ∃ A c, v = .slice A n c ∧ DigL w' (Rows1 v) A n ds ∧ n ≤ c ∧ c ≤ 9223372036854775807 ∧ Fr Nothing w w' := by
  obtain ⟨A, c, rfl, hc⟩ := own_shape h.own
  refine ⟨A, c, rfl, ⟨Rd.of_own h.own, hl, he⟩, hc, ?_, h.fr0⟩
  rcases h.own.2 with ⟨hv, _⟩ | ⟨g, cap, cur, hv, _, _, _, hcap, _⟩
  · injection hv with _ _ h3
    omega
  · injection hv with _ _ h3
    unfold maxLen at hcap
    omega

set_option maxRecDepth 100000 in
set_option maxHeartbeats 1000000 in
theorem rRoot_none (c : Nat) (A : Option Addr) (w : World) : Calls Tryd.prog 21 #[.slice A 0 c] w (Same' w (digV emptyD)) := by
  have CE := Lib.hid (fun w' => rEmpty_any w')
  have HD := Lib.hid (Dig.of emptyD_length)
  unfold digV at *
  generalize (emptyD.map bvI).toArray = RA at *
  go_enter Tryd.func21, Tryd.ntmps21
  go_wp2_with (refine wpList_allocBlk rfl 23 rfl zero32 zv32 zero32c rfl ?_)
  intro w1 n1
  have N1 := Lib.hid n1
  clear n1
  go_wp2_with fail
  refine (CE.out _).mono ?_
  rintro e w2 ⟨rfl, f2⟩
  have F2 := Lib.hid (N1.out.fr.trans f2)
  have B2 := Lib.hid (N1.out.blk.fr f2 (fun x => x))
  clear f2 N1
  go_wp2_with (refine wpList_storeBlk rfl 23 (.tmp 2) _ rfl w.heap.size RA rfl rfl _ _ B2.out HD.out.infoR HD.out.zero HD.out.one ?_)
  intro wz b5 f5
  have J4 := Lib.hid b5
  have JF : Hid (Fr Nothing w wz) := F2.out.then_ f5 (fun i hi e => by have e' : i = w.heap.size := e; omega)
  clear b5 f5
  go_wp2
  exact bodyPost_ret (results_cell_row (fn := Tryd.f21) (p := 2) (ty := 23) Tryd.results21 _ wz _ 23 RA (0, 0) _ rfl J4.out Tryd.underlying23 rfl HD.out.infoR) rfl ⟨rfl, JF.out⟩

theorem wp_binAgg {P : Program} {op : Oper} {a : Act} {w : World} {K : Act → World → Prop} {Q : Exit → Act → World → Prop} (o : BinOp) (t : TypeId) (x y : Operand) (ty : TypeId) (ho : op.op = .binOp o t x y ty)
    (xs ys : Array Value) (hx : a.eval x = .agg xs) (hy : a.eval y = .agg ys) (hg : P.eqGuardType P.depth t = false)
    (v : Value) (hr : (binOp o t (.agg xs) (.agg ys)).run P w = .ok v w) (h : K (a.put op.dst v) w) : op.wp P a w K Q := by
  have he := run_eqGuard_agg (P := P) (w := w) o t x y xs ys hg
  unfold Oper.wp execOp
  simp only [ho, hx, hy, Sem.run_bind, he, hr, Result.andThen_ok]
  exact h

theorem rRootE_any (n : Nat) (ds : List (List UInt8)) (A : Option Addr) (c : Nat) (S : Nat → Prop) (w : World) (hD : DigL w S A n ds) (hn : n ≤ 1048576) (hc : n ≤ c) (hcap : c ≤ 9223372036854775807) :
    Calls Tryd.prog 21 #[.slice A n c] w (Same' w (digV (rootE ds))) := by
  by_cases h : ds = []
  · subst h
    obtain rfl : n = 0 := hD.len.symm
    rw [rootE, if_pos rfl]
    exact rRoot_none c A w
  · have h1 : 1 ≤ n := by
      rcases Nat.eq_zero_or_pos n with h0 | h0
      · exact absurd (List.eq_nil_of_length_eq_zero (hD.len.trans h0)) h
      · exact h0
    rw [rootE, if_neg h]
    exact rRoot_any n ds A c S w hD h1 (by omega) hc hcap

theorem rootE_length (n : Nat) (ds : List (List UInt8)) (hl : ds.length = n) (hn : n ≤ 1048576) (he : ∀ d ∈ ds, d.length = 32) : (rootE ds).length = 32 := by
  unfold rootE
  split
  · exact emptyD_length
  · rename_i h
    have h1 : 1 ≤ n := by
      rcases Nat.eq_zero_or_pos n with h0 | h0
      · exact absurd (List.eq_nil_of_length_eq_zero (hl.trans h0)) h
      · exact h0
    exact rootL_length n ds hl h1 (by omega) he

set_option maxRecDepth 100000 in
set_option maxHeartbeats 2000000 in
theorem Roots_any (s t : ByteArray) (A : Option Addr) (n c : Nat) (ds : List (List UInt8)) (S : Nat → Prop) (w : World) (hT : ShaTab w) (hD : DigL w S A n ds) (hn : n ≤ c) (hc : c ≤ 9223372036854775807) (hs : s.size ≤ 9223372036854775807) (ht : t.size ≤ 9223372036854775807) :
    Calls Tryd.prog 3 #[.string s, .string t, .slice A n c] w (Same' w (.bool true)) := by
  have HS := Lib.hid hs
  have HT := Lib.hid ht
  have HH := Lib.hid hT
  have HD := Lib.hid hD
  clear hs ht hD hT
  go_enter Tryd.func3, Tryd.ntmps3
  go_upto_region 1 with fail
  go_quiet (fail)
  obtain ⟨n3, hn3⟩ : ∃ n3 : Nat, n3 = (min (n : Int) 40).toNat := ⟨_, rfl⟩
  have F0 : Hid (Fr Nothing w (w.drewN nq)) := (Fr.refl _ _).drewN nq
  generalize w.drewN nq = w0 at *
  obtain ⟨x, hx⟩ : ∃ x : ByteArray, x = s.extract 0 (min (s.size : Int) 300).toNat := ⟨_, rfl⟩
  obtain ⟨y, hy⟩ : ∃ y : ByteArray, y = t.extract 0 (min (t.size : Int) 300).toNat := ⟨_, rfl⟩
  have lx : x.size < 4294967296 := by rw [hx, ByteArray.size_extract]; omega
  have ly : y.size < 4294967296 := by rw [hy, ByteArray.size_extract]; omega
  rw [← hx, ← hy, ← hn3]
  clear hx hy
  have ln : n3 ≤ n ∧ n3 ≤ 40 := by omega
  generalize min (s.size : Int) 300 = j1
  generalize min (t.size : Int) 300 = j2
  clear hn3
  generalize min (n : Int) 40 = j3
  have D3 := HD.out.take ln.1
  have hDl := D3.len
  have hDe := D3.each
  have CK : Hid (∀ w', Fr Nothing w w' → Calls Tryd.prog 15 #[] w' (Same' w' (.bool true))) := fun w' hf => known_any w' (HH.out.fr0 hf)
  have CX : Hid (∀ w', Fr Nothing w w' → Calls Tryd.prog 12 #[.string x] w' (Same' w' (digV (leafD (txL x))))) := fun w' hf => Leaf_any _ w' (HH.out.fr0 hf) lx
  have CY : Hid (∀ w', Fr Nothing w w' → Calls Tryd.prog 12 #[.string y] w' (Same' w' (digV (leafD (txL y))))) := fun w' hf => Leaf_any _ w' (HH.out.fr0 hf) ly
  have rX : Hid (∀ w', Calls Tryd.prog 16 #[.string x] w' (Same' w' (digV (leafD (txL x))))) := fun w' => rLeaf_any _ w' lx
  have rY : Hid (∀ w', Calls Tryd.prog 16 #[.string y] w' (Same' w' (digV (leafD (txL y))))) := fun w' => rLeaf_any _ w' ly
  have hla := leafD_length (txL x)
  have hlb := leafD_length (txL y)
  generalize leafD (txL x) = la at *
  generalize leafD (txL y) = lb at *
  have CN : Hid (∀ w', Fr Nothing w w' → Calls Tryd.prog 17 #[digV la, digV lb] w' (Same' w' (digV (nodeD la lb)))) := fun w' hf => Node_any la lb hla hlb w' (HH.out.fr0 hf)
  have rN : Hid (∀ w', Calls Tryd.prog 18 #[digV la, digV lb] w' (Same' w' (digV (nodeD la lb)))) := fun w' => rNode_any la lb hla hlb w'
  have hln := nodeD_length la lb
  generalize nodeD la lb = ln' at *
  have CE : Hid (∀ w', Fr Nothing w w' → Calls Tryd.prog 19 #[] w' (Same' w' (digV emptyD))) := fun w' hf => Empty_any w' (HH.out.fr0 hf)
  have rE : Hid (∀ w', Calls Tryd.prog 20 #[] w' (Same' w' (digV emptyD))) := fun w' => rEmpty_any w'
  have CO : Hid (∀ w', Fr Nothing w w' → Calls Tryd.prog 14 #[.slice A n3 c] w' (Owned w' n3 (ds.take n3))) := fun w' hf => own_any n3 (ds.take n3) A c S w' (D3.fr0 hf) (by omega)
  have CR : Hid (∀ w' v w'', Fr Nothing w w' → Grew 24 32 w' (.slice none 0 0) w'' v n3 ((ds.take n3).flatMap digC) → Calls Tryd.prog 13 #[v] w'' (Same' w'' (.tuple #[digV (rootE (ds.take n3)), .int .i64 0]))) := by
    intro w' v w'' hf hG
    obtain ⟨A', c', rfl, hD', h1, h2, h3⟩ := DigL.of_grew hG hDl hDe
    exact Root_any n3 (ds.take n3) A' c' _ w'' hD' (by omega) h1 h2 (HH.out.fr0 (hf.trans h3))
  have rR : Hid (∀ w', Fr Nothing w w' → Calls Tryd.prog 21 #[.slice A n3 c] w' (Same' w' (digV (rootE (ds.take n3))))) := fun w' hf => rRootE_any n3 (ds.take n3) A c S w' (D3.fr0 hf) (by omega) (by omega) hc
  have hle : emptyD.length = 32 := emptyD_length
  have hlr : (rootE (ds.take n3)).length = 32 := rootE_length n3 _ hDl (by omega) hDe
  generalize rootE (ds.take n3) = lr at *
  generalize emptyD = le at *
  have eqR : ∀ l : List UInt8, l.length = 32 → ∀ w : World, (binOp .eql 23 (digV l) (digV l)).run Tryd.prog w = .ok (.bool true) w := fun l hl w => by
    rw [run_eqD w _ Tryd.underlying23 l l hl hl, decide_eq_true rfl]
  have q1 := Lib.hid (eqR la hla)
  have q2 := Lib.hid (eqR ln' hln)
  have q3 := Lib.hid (eqR le hle)
  have q4 := Lib.hid (eqR lr hlr)
  have DX := Lib.hid (Dig.of hla)
  have DY := Lib.hid (Dig.of hlb)
  have DR := Lib.hid (Dig.of hlr)
  have HXV : Hid ((Tryd.prog.info? 24).map (·.size) = some (digC la).length) := by rw [digC, List.length_map, hla]; exact infoD
  have HYV : Hid ((Tryd.prog.info? 24).map (·.size) = some (digC lb).length) := by rw [digC, List.length_map, hlb]; exact infoD
  have HRV : Hid ((Tryd.prog.info? 24).map (·.size) = some (digC lr).length) := by rw [digC, List.length_map, hlr]; exact infoD
  clear D3 hDl hDe HD hla hlb hln hle hlr eqR HH lx ly ln
  unfold digV at *
  simp only [show ∀ l : List UInt8, l.map bvI = digC l from fun _ => rfl] at *
  generalize digC la = XV at *
  generalize digC lb = YV at *
  generalize digC ln' = NV at *
  generalize digC le = EV at *
  generalize digC lr = RV at *
  go_wp2_with fail
  refine (CX.out _ F0.out).mono ?_
  rintro e w1 ⟨rfl, f1⟩
  have F1 := Lib.hid (F0.out.trans f1)
  clear f1 F0
  go_wp2_with fail
  refine (CY.out _ F1.out).mono ?_
  rintro e w2 ⟨rfl, f2⟩
  have F2 := Lib.hid (F1.out.trans f2)
  clear f2 F1
  go_wp2_with (refine wpList_allocBlk rfl 24 rfl zero32 zvD zero32c rfl ?_)
  intro w3 n3'
  have N3 := Lib.hid n3'
  clear n3'
  go_wp2_with (refine wpList_allocBlk rfl 24 rfl zero32 zvD zero32c rfl ?_)
  intro w4 n4
  have B4 := Lib.hid (N3.out.blk.fr n4.fr (fun x => x))
  have F4 := Lib.hid (F2.out.trans (N3.out.fr.trans n4.fr))
  have C4 := Lib.hid n4.blk
  have z1 : Hid (w.heap.size ≤ w2.heap.size ∧ w2.heap.size < w3.heap.size) := ⟨F2.out.size, by rw [N3.out.size]; omega⟩
  clear n4 N3 F2
  generalize w2.heap.size = gx at *
  generalize w3.heap.size = gy at *
  go_wp2_with (refine wpList_storeBlk rfl 24 (.tmp 7) _ rfl gx XV.toArray rfl rfl _ _ B4.out DX.out.info DX.out.zero DX.out.one ?_)
  intro w5 b5 f5
  have B5 := Lib.hid b5
  have C5 := Lib.hid (C4.out.fr f5 (fun e => by have e' : gy = gx := e; have := z1.out; omega))
  have F5 := Lib.hid (F4.out.then_ f5 (fun i hi e => by have e' : i = gx := e; have := z1.out; omega))
  clear b5 f5 B4 C4 F4
  go_wp2_with (refine wpList_storeBlk rfl 24 (.tmp 8) _ rfl gy YV.toArray rfl rfl _ _ C5.out DY.out.info DY.out.zero DY.out.one ?_)
  intro w6 b6 f6
  have C6 := Lib.hid b6
  have B6 := Lib.hid (B5.out.fr f6 (fun e => by have e' : gx = gy := e; have := z1.out; omega))
  have F6 := Lib.hid (F5.out.then_ f6 (fun i hi e => by have e' : i = gy := e; have := z1.out; omega))
  clear b6 f6 B5 C5 F5
  go_wp2_with fail
  refine (CO.out _ F6.out).mono ?_
  rintro e w7 ⟨v, rfl, hG⟩
  have G7 := Lib.hid hG
  have B7 := Lib.hid (B6.out.fr hG.fr0 (fun x => x))
  have C7 := Lib.hid (C6.out.fr hG.fr0 (fun x => x))
  have F7 := Lib.hid (F6.out.trans hG.fr0)
  clear hG B6 C6
  go_wp2_with fail
  refine (CR.out _ _ _ F6.out G7.out).mono ?_
  rintro e w8 ⟨rfl, f8⟩
  have B8 := Lib.hid (B7.out.fr f8 (fun x => x))
  have C8 := Lib.hid (C7.out.fr f8 (fun x => x))
  have F8 := Lib.hid (F7.out.trans f8)
  clear f8 B7 C7 F7 G7 F6 CR CO
  go_wp2_with (refine wpList_allocBlk rfl 24 rfl zero32 zvD zero32c rfl ?_)
  intro w9 n9
  have B9 := Lib.hid (B8.out.fr n9.fr (fun x => x))
  have C9 := Lib.hid (C8.out.fr n9.fr (fun x => x))
  have G9 := Lib.hid (F8.out.trans n9.fr)
  have R9 := Lib.hid n9.blk
  have z2 : Hid (w.heap.size ≤ w8.heap.size ∧ gx < w8.heap.size ∧ gy < w8.heap.size) := ⟨F8.out.size, B8.out.lt, C8.out.lt⟩
  clear n9 B8 C8 F8
  generalize w8.heap.size = gr at *
  go_wp2_with (refine wpList_storeBlk rfl 24 (.tmp 9) _ rfl gr RV.toArray rfl rfl _ _ R9.out DR.out.info DR.out.zero DR.out.one ?_)
  intro w10 b10 f10
  have BR := Lib.hid b10
  have BX := Lib.hid (B9.out.fr f10 (fun e => by have e' : gx = gr := e; have := z2.out; omega))
  have BY := Lib.hid (C9.out.fr f10 (fun e => by have e' : gy = gr := e; have := z2.out; omega))
  have F9 := Lib.hid (G9.out.then_ f10 (fun i hi e => by have e' : i = gr := e; have := z2.out; omega))
  clear b10 f10 B9 C9 G9 R9
  go_upto_region 4 with fail
  clear CX CY DX DY DR z1 z2
  refine wp_region_st 33 Nothing [Is (.bool true), Is (.bool true), Is (.agg XV.toArray), Is (.string x), Is (.agg XV.toArray), Is (.bool true), Is (.bool true), Is (.bool true), Is (.agg XV.toArray), Is (.agg YV.toArray), Is (.agg NV.toArray), Is (.string x), Is (.agg XV.toArray), Is (.string y), Is (.agg YV.toArray), Is (.agg NV.toArray), Is (.bool true), Is (.bool true), Is (.bool true), Is (.agg EV.toArray), Is (.agg EV.toArray), Is (.bool true), Is (.bool true), Is (.bool true), Is (.int .i64 0), Is (.bool true), Is (.bool true), Is (.bool true), Is (.agg RV.toArray), Is (.slice A n3 c), Is (.agg RV.toArray), Is (.bool true), Is (.bool true)] [] (fun _ => True) (fun _ _ => false) (by kernel_rfl) (by kernel_rfl) (by kernel_rfl) (by kernel_rfl) ⟨Is.stable _, Is.stable _, Is.stable _, Is.stable _, Is.stable _, Is.stable _, Is.stable _, Is.stable _, Is.stable _, Is.stable _, Is.stable _, Is.stable _, Is.stable _, Is.stable _, Is.stable _, Is.stable _, Is.stable _, Is.stable _, Is.stable _, Is.stable _, Is.stable _, Is.stable _, Is.stable _, Is.stable _, Is.stable _, Is.stable _, Is.stable _, Is.stable _, Is.stable _, Is.stable _, Is.stable _, Is.stable _, Is.stable _, trivial⟩ trivial (fun _ _ _ _ h => h) trivial ?_ ?_
  · refine ⟨fun u w' d hf hR k1 k0 kM => ?_, fun u w' d hf hR k1 k0 kM => ?_, fun u w' d hf hR k1 k0 kM => ?_, fun u w' d hf hR k1 k0 kM => ?_, fun u w' d hf hR k1 k0 kM => ?_, fun u w' d hf hR k1 k0 kM => ?_, fun u w' d hf hR k1 k0 kM => ?_, fun u w' d hf hR k1 k0 kM => ?_, fun u w' d hf hR k1 k0 kM => ?_, fun u w' d hf hR k1 k0 kM => ?_, fun u w' d hf hR k1 k0 kM => ?_, fun u w' d hf hR k1 k0 kM => ?_, fun u w' d hf hR k1 k0 kM => ?_, fun u w' d hf hR k1 k0 kM => ?_, fun u w' d hf hR k1 k0 kM => ?_, fun u w' d hf hR k1 k0 kM => ?_, fun u w' d hf hR k1 k0 kM => ?_, fun u w' d hf hR k1 k0 kM => ?_, fun u w' d hf hR k1 k0 kM => ?_, fun u w' d hf hR k1 k0 kM => ?_, fun u w' d hf hR k1 k0 kM => ?_, fun u w' d hf hR k1 k0 kM => ?_, fun u w' d hf hR k1 k0 kM => ?_, fun u w' d hf hR k1 k0 kM => ?_, fun u w' d hf hR k1 k0 kM => ?_, fun u w' d hf hR k1 k0 kM => ?_, fun u w' d hf hR k1 k0 kM => ?_, fun u w' d hf hR k1 k0 kM => ?_, fun u w' d hf hR k1 k0 kM => ?_, fun u w' d hf hR k1 k0 kM => ?_, fun u w' d hf hR k1 k0 kM => ?_, fun u w' d hf hR k1 k0 kM => ?_, fun u w' d hf hR k1 k0 kM => ?_, trivial⟩
    all_goals simp only [List.take_succ_cons, List.take_zero, List.map_cons, List.map_nil, puts, Act.put, List.setIfInBounds_toArray, List.set_cons_zero, List.set_cons_succ, Nat.reduceAdd, Nat.zero_add]
    · clear hR k1 k0 kM
      refine .inl ⟨by kernel_rfl, ?_⟩
      go_simp
      refine (CK.out _ (F9.out.trans hf)).mono ?_
      rintro e w4 ⟨rfl, f4⟩
      exact ⟨_, rfl, f4.weak, rfl, trivial⟩
    · have h0 : u 0 = _ := hR 0 (by kernel_rfl)
      clear hR k1 k0 kM
      simp only [h0]
      refine .inl ⟨by kernel_rfl, ?_⟩
      go_simp
      exact ⟨_, rfl, Fr.refl _ _, rfl, trivial⟩
    · have h1 : u 1 = _ := hR 1 (by kernel_rfl)
      clear hR k1 k0 kM
      simp only [h1]
      refine .inl ⟨by kernel_rfl, ?_⟩
      exact wp_load_mid _ _ rfl gx 0 rfl XV _ (range_blk (BX.out.fr hf (fun x => x))) Tryd.underlying24 rfl HXV.out ⟨_, rfl, Fr.refl _ _, rfl, trivial⟩
    · have h1 : u 1 = _ := hR 1 (by kernel_rfl)
      clear hR k1 k0 kM
      simp only [h1]
      refine .inl ⟨by kernel_rfl, ?_⟩
      go_simp
      exact ⟨_, rfl, Fr.refl _ _, rfl, trivial⟩
    · have h3 : u 3 = _ := hR 3 (by kernel_rfl)
      have h1 : u 1 = _ := hR 1 (by kernel_rfl)
      clear hR k1 k0 kM
      simp only [h3, h1]
      refine .inl ⟨by kernel_rfl, ?_⟩
      go_simp
      refine (rX.out _).mono ?_
      rintro e w4 ⟨rfl, f4⟩
      exact ⟨_, rfl, f4.weak, rfl, trivial⟩
    · have h2 : u 2 = _ := hR 2 (by kernel_rfl)
      have h4 : u 4 = _ := hR 4 (by kernel_rfl)
      have h1 : u 1 = _ := hR 1 (by kernel_rfl)
      clear hR k1 k0 kM
      simp only [h2, h4, h1]
      refine .inl ⟨by kernel_rfl, ?_⟩
      exact wp_binAgg _ _ _ _ _ rfl _ _ rfl rfl Tryd.eqGuardType23 _ (q1.out _) ⟨_, rfl, Fr.refl _ _, rfl, trivial⟩
    · have h1 : u 1 = _ := hR 1 (by kernel_rfl)
      have h5 : u 5 = _ := hR 5 (by kernel_rfl)
      clear hR k1 k0 kM
      simp only [h1, h5]
      refine .inl ⟨by kernel_rfl, ?_⟩
      go_simp
      exact ⟨_, rfl, Fr.refl _ _, rfl, trivial⟩
    · have h6 : u 6 = _ := hR 6 (by kernel_rfl)
      clear hR k1 k0 kM
      simp only [h6]
      refine .inl ⟨by kernel_rfl, ?_⟩
      go_simp
      exact ⟨_, rfl, Fr.refl _ _, rfl, trivial⟩
    · have h7 : u 7 = _ := hR 7 (by kernel_rfl)
      clear hR k1 k0 kM
      simp only [h7]
      refine .inl ⟨by kernel_rfl, ?_⟩
      exact wp_load_mid _ _ rfl gx 0 rfl XV _ (range_blk (BX.out.fr hf (fun x => x))) Tryd.underlying24 rfl HXV.out ⟨_, rfl, Fr.refl _ _, rfl, trivial⟩
    · have h7 : u 7 = _ := hR 7 (by kernel_rfl)
      clear hR k1 k0 kM
      simp only [h7]
      refine .inl ⟨by kernel_rfl, ?_⟩
      exact wp_load_mid _ _ rfl gy 0 rfl YV _ (range_blk (BY.out.fr hf (fun x => x))) Tryd.underlying24 rfl HYV.out ⟨_, rfl, Fr.refl _ _, rfl, trivial⟩
    · have h8 : u 8 = _ := hR 8 (by kernel_rfl)
      have h9 : u 9 = _ := hR 9 (by kernel_rfl)
      have h7 : u 7 = _ := hR 7 (by kernel_rfl)
      clear hR k1 k0 kM
      simp only [h8, h9, h7]
      refine .inl ⟨by kernel_rfl, ?_⟩
      go_simp
      refine (CN.out _ (F9.out.trans hf)).mono ?_
      rintro e w4 ⟨rfl, f4⟩
      exact ⟨_, rfl, f4.weak, rfl, trivial⟩
    · have h7 : u 7 = _ := hR 7 (by kernel_rfl)
      clear hR k1 k0 kM
      simp only [h7]
      refine .inl ⟨by kernel_rfl, ?_⟩
      go_simp
      exact ⟨_, rfl, Fr.refl _ _, rfl, trivial⟩
    · have h11 : u 11 = _ := hR 11 (by kernel_rfl)
      have h7 : u 7 = _ := hR 7 (by kernel_rfl)
      clear hR k1 k0 kM
      simp only [h11, h7]
      refine .inl ⟨by kernel_rfl, ?_⟩
      go_simp
      refine (rX.out _).mono ?_
      rintro e w4 ⟨rfl, f4⟩
      exact ⟨_, rfl, f4.weak, rfl, trivial⟩
    · have h7 : u 7 = _ := hR 7 (by kernel_rfl)
      clear hR k1 k0 kM
      simp only [h7]
      refine .inl ⟨by kernel_rfl, ?_⟩
      go_simp
      exact ⟨_, rfl, Fr.refl _ _, rfl, trivial⟩
    · have h13 : u 13 = _ := hR 13 (by kernel_rfl)
      have h7 : u 7 = _ := hR 7 (by kernel_rfl)
      clear hR k1 k0 kM
      simp only [h13, h7]
      refine .inl ⟨by kernel_rfl, ?_⟩
      go_simp
      refine (rY.out _).mono ?_
      rintro e w4 ⟨rfl, f4⟩
      exact ⟨_, rfl, f4.weak, rfl, trivial⟩
    · have h12 : u 12 = _ := hR 12 (by kernel_rfl)
      have h14 : u 14 = _ := hR 14 (by kernel_rfl)
      have h7 : u 7 = _ := hR 7 (by kernel_rfl)
      clear hR k1 k0 kM
      simp only [h12, h14, h7]
      refine .inl ⟨by kernel_rfl, ?_⟩
      go_simp
      refine (rN.out _).mono ?_
      rintro e w4 ⟨rfl, f4⟩
      exact ⟨_, rfl, f4.weak, rfl, trivial⟩
    · have h10 : u 10 = _ := hR 10 (by kernel_rfl)
      have h15 : u 15 = _ := hR 15 (by kernel_rfl)
      have h7 : u 7 = _ := hR 7 (by kernel_rfl)
      clear hR k1 k0 kM
      simp only [h10, h15, h7]
      refine .inl ⟨by kernel_rfl, ?_⟩
      exact wp_binAgg _ _ _ _ _ rfl _ _ rfl rfl Tryd.eqGuardType23 _ (q2.out _) ⟨_, rfl, Fr.refl _ _, rfl, trivial⟩
    · have h7 : u 7 = _ := hR 7 (by kernel_rfl)
      have h16 : u 16 = _ := hR 16 (by kernel_rfl)
      clear hR k1 k0 kM
      simp only [h7, h16]
      refine .inl ⟨by kernel_rfl, ?_⟩
      go_simp
      exact ⟨_, rfl, Fr.refl _ _, rfl, trivial⟩
    · have h17 : u 17 = _ := hR 17 (by kernel_rfl)
      clear hR k1 k0 kM
      simp only [h17]
      refine .inl ⟨by kernel_rfl, ?_⟩
      go_simp
      exact ⟨_, rfl, Fr.refl _ _, rfl, trivial⟩
    · have h18 : u 18 = _ := hR 18 (by kernel_rfl)
      clear hR k1 k0 kM
      simp only [h18]
      refine .inl ⟨by kernel_rfl, ?_⟩
      go_simp
      refine (CE.out _ (F9.out.trans hf)).mono ?_
      rintro e w4 ⟨rfl, f4⟩
      exact ⟨_, rfl, f4.weak, rfl, trivial⟩
    · have h18 : u 18 = _ := hR 18 (by kernel_rfl)
      clear hR k1 k0 kM
      simp only [h18]
      refine .inl ⟨by kernel_rfl, ?_⟩
      go_simp
      refine (rE.out _).mono ?_
      rintro e w4 ⟨rfl, f4⟩
      exact ⟨_, rfl, f4.weak, rfl, trivial⟩
    · have h19 : u 19 = _ := hR 19 (by kernel_rfl)
      have h20 : u 20 = _ := hR 20 (by kernel_rfl)
      have h18 : u 18 = _ := hR 18 (by kernel_rfl)
      clear hR k1 k0 kM
      simp only [h19, h20, h18]
      refine .inl ⟨by kernel_rfl, ?_⟩
      exact wp_binAgg _ _ _ _ _ rfl _ _ rfl rfl Tryd.eqGuardType23 _ (q3.out _) ⟨_, rfl, Fr.refl _ _, rfl, trivial⟩
    · have h18 : u 18 = _ := hR 18 (by kernel_rfl)
      have h21 : u 21 = _ := hR 21 (by kernel_rfl)
      clear hR k1 k0 kM
      simp only [h18, h21]
      refine .inl ⟨by kernel_rfl, ?_⟩
      go_simp
      exact ⟨_, rfl, Fr.refl _ _, rfl, trivial⟩
    · have h22 : u 22 = _ := hR 22 (by kernel_rfl)
      clear hR k1 k0 kM
      simp only [h22]
      refine .inl ⟨by kernel_rfl, ?_⟩
      go_simp
      exact ⟨_, rfl, Fr.refl _ _, rfl, trivial⟩
    · have h23 : u 23 = _ := hR 23 (by kernel_rfl)
      clear hR k1 k0 kM
      simp only [h23]
      refine .inl ⟨by kernel_rfl, ?_⟩
      go_simp
      exact ⟨_, rfl, Fr.refl _ _, rfl, trivial⟩
    · have h24 : u 24 = _ := hR 24 (by kernel_rfl)
      have h23 : u 23 = _ := hR 23 (by kernel_rfl)
      clear hR k1 k0 kM
      simp only [h24, h23]
      refine .inl ⟨by kernel_rfl, ?_⟩
      go_simp
      exact ⟨_, rfl, Fr.refl _ _, rfl, trivial⟩
    · have h23 : u 23 = _ := hR 23 (by kernel_rfl)
      have h25 : u 25 = _ := hR 25 (by kernel_rfl)
      clear hR k1 k0 kM
      simp only [h23, h25]
      refine .inl ⟨by kernel_rfl, ?_⟩
      go_simp
      exact ⟨_, rfl, Fr.refl _ _, rfl, trivial⟩
    · have h26 : u 26 = _ := hR 26 (by kernel_rfl)
      clear hR k1 k0 kM
      simp only [h26]
      refine .inl ⟨by kernel_rfl, ?_⟩
      go_simp
      exact ⟨_, rfl, Fr.refl _ _, rfl, trivial⟩
    · have h27 : u 27 = _ := hR 27 (by kernel_rfl)
      clear hR k1 k0 kM
      simp only [h27]
      refine .inl ⟨by kernel_rfl, ?_⟩
      exact wp_load_mid _ _ rfl gr 0 rfl RV _ (range_blk (BR.out.fr hf (fun x => x))) Tryd.underlying24 rfl HRV.out ⟨_, rfl, Fr.refl _ _, rfl, trivial⟩
    · have h27 : u 27 = _ := hR 27 (by kernel_rfl)
      clear hR k1 k0 kM
      simp only [h27]
      refine .inl ⟨by kernel_rfl, ?_⟩
      go_simp
      exact ⟨_, rfl, Fr.refl _ _, rfl, trivial⟩
    · have h29 : u 29 = _ := hR 29 (by kernel_rfl)
      have h27 : u 27 = _ := hR 27 (by kernel_rfl)
      clear hR k1 k0 kM
      simp only [h29, h27]
      refine .inl ⟨by kernel_rfl, ?_⟩
      go_simp
      refine (rR.out _ (F9.out.trans hf)).mono ?_
      rintro e w4 ⟨rfl, f4⟩
      exact ⟨_, rfl, f4.weak, rfl, trivial⟩
    · have h28 : u 28 = _ := hR 28 (by kernel_rfl)
      have h30 : u 30 = _ := hR 30 (by kernel_rfl)
      have h27 : u 27 = _ := hR 27 (by kernel_rfl)
      clear hR k1 k0 kM
      simp only [h28, h30, h27]
      refine .inl ⟨by kernel_rfl, ?_⟩
      exact wp_binAgg _ _ _ _ _ rfl _ _ rfl rfl Tryd.eqGuardType23 _ (q4.out _) ⟨_, rfl, Fr.refl _ _, rfl, trivial⟩
    · have h27 : u 27 = _ := hR 27 (by kernel_rfl)
      have h31 : u 31 = _ := hR 31 (by kernel_rfl)
      clear hR k1 k0 kM
      simp only [h27, h31]
      refine .inl ⟨by kernel_rfl, ?_⟩
      go_simp
      exact ⟨_, rfl, Fr.refl _ _, rfl, trivial⟩
  · intro u w' hf hR kM
    have h32 : u 32 = _ := hR 32 (by omega)
    clear hR kM
    simp only [List.take_succ_cons, List.take_zero, List.map_cons, List.map_nil, puts, Act.put, List.setIfInBounds_toArray, List.set_cons_zero, List.set_cons_succ, List.drop_succ_cons, List.drop_zero, Nat.reduceAdd, Nat.zero_add, h32]
    have JF := Lib.hid (F9.out.trans hf)
    clear hf
    go_wp2
    go_ret
    exact ⟨rfl, JF.out⟩
end Go.Proofs.YtkaghbpdnmigmaaDoor
