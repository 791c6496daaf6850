/- logtree.Collision (written by genCoC.py). -/
import Derived.Test.YtkaghbpdnmigmaaDoorCoB
namespace Go.Proofs.YtkaghbpdnmigmaaDoor
open Go.RowKit

/-! ### Lists of pairs in memory -/
structure PairL (w : World) (S : Nat → Prop) (A : Option Addr) (ps : List DP) : Prop where
  rd : Rd w S 64 A ps.length (ps.flatMap pairC)
  each : ∀ p ∈ ps, p.1.length = 32 ∧ p.2.length = 32
  lt : ∀ k, S k → k < w.heap.size
theorem PairL.fr0 {w w' : World} {S : Nat → Prop} {A : Option Addr} {ps : List DP} (h : PairL w S A ps) (hf : Fr Nothing w w') : PairL w' S A ps := ⟨h.rd.fr0 hf, h.each, fun k hk => Nat.lt_of_lt_of_le (h.lt k hk) hf.size⟩
theorem PairL.fr {w w' : World} {S T : Nat → Prop} {A : Option Addr} {ps : List DP} (h : PairL w S A ps) (hf : Fr T w w') (hd : ∀ k, S k → ¬ T k) : PairL w' S A ps := ⟨h.rd.fr hf hd, h.each, fun k hk => Nat.lt_of_lt_of_le (h.lt k hk) hf.size⟩
theorem pflat_at (ps : List DP) (h : ∀ p ∈ ps, p.1.length = 32 ∧ p.2.length = 32) : ∀ (k : Nat) (p : DP), ps[k]? = some p → ∀ j v, (pairC p)[j]? = some v → (ps.flatMap pairC)[k * 64 + j]? = some v := by
  induction ps with
  | nil => intro k p hp; cases hp
  | cons q r ih =>
    intro k p hp j v hv
    have hq : (pairC q).length = 64 := pairC_length (h q (by simp))
    rcases k with _ | k
    · obtain rfl : q = p := by simpa using hp
      have hj := (List.getElem?_eq_some_iff.1 hv).1
      rw [List.flatMap_cons, Nat.zero_mul, Nat.zero_add, List.getElem?_append_left hj]
      exact hv
    · have hp' : r[k]? = some p := by simpa using hp
      rw [List.flatMap_cons, List.getElem?_append_right (by omega), show (k + 1) * 64 + j - (pairC q).length = k * 64 + j by omega]
      exact ih (fun x hx => h x (by simp [hx])) k p hp' j v hv
theorem PairL.at_ {w : World} {S : Nat → Prop} {A : Option Addr} {ps : List DP} (h : PairL w S A ps) {k : Nat} (hk : k < ps.length) : ∃ ad, A = some ad ∧ ∀ j v, (pairC (ps.getD k ([], [])))[j]? = some v → w.cell? ((ad.add (k * 64)).add j) = some v := by
  obtain ⟨ad, e, _, hc⟩ := h.rd.2 (by omega)
  refine ⟨ad, e, fun j v hv => ?_⟩
  rw [add_of_add]
  exact hc _ v (pflat_at ps h.each k _ (by rw [List.getD_eq_getElem?_getD, List.getElem?_eq_getElem hk]; rfl) j v hv)
theorem PairL.of_grew {w w' : World} {v : Value} {ps : List DP} {n : Nat} (h : Grew 94 64 w (.slice none 0 0) w' v n (ps.flatMap pairC)) (hn : ps.length = n) (he : ∀ p ∈ ps, p.1.length = 32 ∧ p.2.length = 32) : ∃ A c, v = .slice A n c ∧ PairL w' (Rows1 (.slice A n c)) A ps ∧ Fr Nothing w w' := by
  obtain ⟨A, c, rfl, hc⟩ := own_shape h.own
  refine ⟨A, c, rfl, ⟨by rw [hn]; exact Rd.of_own h.own, he, fun k hk => ?_⟩, h.fr0⟩
  obtain ⟨o, ho, _⟩ := own_block h.own hk
  exact (Array.getElem?_eq_some_iff.1 ho).1
theorem proof_cells {w : World} {g : Nat} {t : TypeId} {L : List Value} {v : Value} (h : Blk w g t (L ++ [v]).toArray) (hl : L.length = 32) : w.cell? ⟨g, 32, none⟩ = some v ∧ ∀ j u, L[j]? = some u → w.cell? ((⟨g, 0, none⟩ : Addr).add j) = some u := by
  refine ⟨?_, fun j u hu => ?_⟩
  · rw [h.cell, List.getElem?_toArray, List.getElem?_append_right (by omega), hl]
    rfl
  · have hj := (List.getElem?_eq_some_iff.1 hu).1
    rw [Addr.add_mid, Nat.zero_add, h.cell, List.getElem?_toArray, List.getElem?_append_left hj]
    exact hu

/-! ### '!=' of pairs -/
theorem equalD (d : Nat) (w : World) (l r : List UInt8) (hl : l.length = 32) (hr : r.length = 32) : (Op.equalIn (d + 2) 24 (.agg (digC l).toArray) (.agg (digC r).toArray)).run Tryd.prog w = .ok (decide (l = r)) w := by
  obtain ⟨i, hi⟩ := Option.isSome_iff_exists.1 infoU8
  unfold digC
  rw [run_equalIn_array w (d + 1) _ _ Tryd.underlying24 hi, cellsU8, run_items w d l r hl hr _ (fun i hi => List.mem_range.1 hi), all_same l r hl hr]
theorem pair_fields : (Tryd.prog.fieldsOf 94).toList.map (fun f => (f.name, f.type, f.offset)) = [("left", 24, 0), ("right", 24, 32)] := by kernel_rfl
theorem isAggD (w : World) : (isAgg 24).run Tryd.prog w = .ok true w := by kernel_rfl
theorem sizeD (w : World) : (sizeOf 24).run Tryd.prog w = .ok 32 w := by kernel_rfl
theorem part0 (w : World) (a b : List Value) (ha : a.length = 32) : (part 24 (a ++ b).toArray 0).run Tryd.prog w = .ok (.agg a.toArray) w := by
  unfold part
  simp only [Sem.run_bind, isAggD, Result.andThen_ok, if_true, sizeD, Sem.run_pure, Nat.zero_add]
  congr 2
  simp [ha]
theorem part32 (w : World) (a b : List Value) (ha : a.length = 32) (hb : b.length = 32) : (part 24 (a ++ b).toArray 32).run Tryd.prog w = .ok (.agg b.toArray) w := by
  unfold part
  simp only [Sem.run_bind, isAggD, Result.andThen_ok, if_true, sizeD, Sem.run_pure]
  have hb' : b.take 32 = b := List.take_of_length_le (by omega)
  congr 2
  simp [ha, hb']
theorem eqFields_two {P : Program} (w : World) (d : Nat) (xs ys : Array Value) (f1 f2 : Field) (x1 y1 x2 y2 : Value) (r1 r2 : Bool) (h1 : f1.name ≠ "_") (h2 : f2.name ≠ "_")
    (p1 : (part f1.type xs f1.offset).run P w = .ok x1 w) (q1 : (part f1.type ys f1.offset).run P w = .ok y1 w) (p2 : (part f2.type xs f2.offset).run P w = .ok x2 w) (q2 : (part f2.type ys f2.offset).run P w = .ok y2 w)
    (e1 : (Op.equalIn d f1.type x1 y1).run P w = .ok r1 w) (e2 : (Op.equalIn d f2.type x2 y2).run P w = .ok r2 w) : (Op.eqFields d xs ys [f1, f2]).run P w = .ok (r1 && r2) w := by
  simp only [Op.eqFields, h1, h2, ne_eq, not_false_eq_true, if_true, Sem.run_bind, p1, q1, Result.andThen_ok, e1]
  cases r1
  · simp
  · simp only [Bool.not_true, Bool.false_eq_true, if_false, Sem.run_bind, p2, q2, Result.andThen_ok, e2, Bool.true_and]
    cases r2
    · simp
    · simp
theorem run_pfields (d : Nat) (w : World) (a b : DP) (ha : a.1.length = 32 ∧ a.2.length = 32) (hb : b.1.length = 32 ∧ b.2.length = 32) (fs : List Field) (hf : fs.map (fun f => (f.name, f.type, f.offset)) = [("left", 24, 0), ("right", 24, 32)]) :
    (Op.eqFields (d + 2) (pairC a).toArray (pairC b).toArray fs).run Tryd.prog w = .ok (decide (a = b)) w := by
  have dl : ∀ l : List UInt8, l.length = 32 → (digC l).length = 32 := fun l h => by rw [digC, List.length_map, h]
  rcases fs with _ | ⟨f1, _ | ⟨f2, _ | ⟨f3, fr⟩⟩⟩
  · cases hf
  · simp at hf
  · simp only [List.map_cons, List.map_nil, List.cons.injEq, Prod.mk.injEq, and_true] at hf
    obtain ⟨⟨n1, t1, o1⟩, n2, t2, o2⟩ := hf
    have u1 : f1.name ≠ "_" := by rw [n1]; decide
    have u2 : f2.name ≠ "_" := by rw [n2]; decide
    have hab : decide (a = b) = (decide (a.1 = b.1) && decide (a.2 = b.2)) := by
      rw [Bool.eq_iff_iff]
      simp [Prod.ext_iff]
    rw [hab]
    refine eqFields_two w (d + 2) _ _ f1 f2 (.agg (digC a.1).toArray) (.agg (digC b.1).toArray) (.agg (digC a.2).toArray) (.agg (digC b.2).toArray) _ _ u1 u2 ?_ ?_ ?_ ?_ ?_ ?_
    · rw [t1, o1]
      exact part0 w _ _ (dl _ ha.1)
    · rw [t1, o1]
      exact part0 w _ _ (dl _ hb.1)
    · rw [t2, o2]
      exact part32 w _ _ (dl _ ha.1) (dl _ ha.2)
    · rw [t2, o2]
      exact part32 w _ _ (dl _ hb.1) (dl _ hb.2)
    · rw [t1]
      exact equalD d w a.1 b.1 ha.1 hb.1
    · rw [t2]
      exact equalD d w a.2 b.2 ha.2 hb.2
  · simp at hf
theorem run_equal_pair (w : World) (a b : DP) (ha : a.1.length = 32 ∧ a.2.length = 32) (hb : b.1.length = 32 ∧ b.2.length = 32) :
    (Op.equalIn 10000 94 (.agg (pairC a).toArray) (.agg (pairC b).toArray)).run Tryd.prog w = .ok (decide (a = b)) w := by
  have hs : Tryd.prog.underlying 94 = some (.struct (Tryd.prog.fieldsOf 94)) := by kernel_rfl
  have hp : Tryd.prog.stoodInHeld 94 = false := by kernel_rfl
  exact (run_equalIn_agg w 9999 _ _ _ hs hp).trans (run_pfields 9997 w a b ha hb _ pair_fields)
theorem run_neP (w : World) (a b : DP) (ha : a.1.length = 32 ∧ a.2.length = 32) (hb : b.1.length = 32 ∧ b.2.length = 32) :
    (binOp .neq 94 (.agg (pairC a).toArray) (.agg (pairC b).toArray)).run Tryd.prog w = .ok (.bool (!decide (a = b))) w := by
  have := run_equal_pair w a b ha hb
  rw [run_neq_struct, this]
  rfl

theorem nodesV_each (leaf : List UInt8) (hl : leaf.length = 32) (index n : Int) (path : List (List UInt8)) (he : ∀ d ∈ path, d.length = 32) : ∀ p ∈ (nodesV leaf index n path).2.1, p.1.length = 32 ∧ p.2.length = 32 := by
  unfold nodesV
  split
  · split
    · rename_i h
      exact (runF_ok leaf hl path he _ _ rfl (by omega)).each
    · intro p hp; cases hp
  · intro p hp; cases hp
theorem nodesV_count (leaf : List UInt8) (hl : leaf.length = 32) (index n : Int) (path : List (List UInt8)) (he : ∀ d ∈ path, d.length = 32) : (nodesV leaf index n path).2.2 = 0 → (nodesV leaf index n path).2.1.length = (stepsL index.toNat n.toNat).length ∧ (stepsL index.toNat n.toNat).length = path.length := by
  unfold nodesV
  split
  · split
    · rename_i h
      exact fun _ => ⟨(runF_ok leaf hl path he _ _ rfl (by omega)).count, h.symm⟩
    · intro h; simp at h
  · intro h; simp at h

set_option maxRecDepth 100000 in
set_option maxHeartbeats 4000000 in
theorem Collision_any (la lb : List UInt8) (hla : la.length = 32) (hlb : lb.length = 32) (index n : Int) (bn : -9223372036854775808 ≤ n ∧ n ≤ 9223372036854775807) (pa pb : List (List UInt8)) (na nb : Nat) (Aa Ab : Option Addr) (ca cb : Nat) (Sa Sb : Nat → Prop) (w : World)
    (hDa : DigL w Sa Aa na pa) (hDb : DigL w Sb Ab nb pb) (hna : na ≤ 1048576) (hnb : nb ≤ 1048576) (hT : ShaTab w) (V V' : List UInt8 × List DP × Int) (hV : V = nodesV la index n pa) (hV' : V' = nodesV lb index n pb) (r : List UInt8 × List UInt8 × Bool) (hr : r = collV V.2.2 V'.2.2 V.1 V'.1 V.2.1 V'.2.1) :
    Calls Tryd.prog 26 #[.int .i64 index, .int .i64 n, .agg (digC la ++ [Value.slice Aa na ca]).toArray, .agg (digC lb ++ [Value.slice Ab nb cb]).toArray] w (Same' w (.tuple #[.string ⟨r.1.toArray⟩, .string ⟨r.2.1.toArray⟩, .bool r.2.2])) := by
  have CA : Hid (∀ w', Fr Nothing w w' → Calls Tryd.prog 49 #[digV la, .int .i64 index, .int .i64 n, .slice Aa na ca] w' (NodesD w' (nodesV la index n pa))) := fun w' hf => nodes_any la hla index n bn pa na Aa ca Sa w' (hDa.fr0 hf) hna (hT.fr0 hf)
  have CB : Hid (∀ w', Fr Nothing w w' → Calls Tryd.prog 49 #[digV lb, .int .i64 index, .int .i64 n, .slice Ab nb cb] w' (NodesD w' (nodesV lb index n pb))) := fun w' hf => nodes_any lb hlb index n bn pb nb Ab cb Sb w' (hDb.fr0 hf) hnb (hT.fr0 hf)
  have lra := nodesV_length la hla index n pa hDa.each
  have lrb := nodesV_length lb hlb index n pb hDb.each
  have ea := nodesV_each la hla index n pa hDa.each
  have eb := nodesV_each lb hlb index n pb hDb.each
  have cna := nodesV_count la hla index n pa hDa.each
  have cnb := nodesV_count lb hlb index n pb hDb.each
  unfold NodesD at CA CB
  rw [← hV] at CA lra ea cna
  rw [← hV'] at CB lrb eb cnb
  obtain ⟨ra, psA, EA⟩ := V
  obtain ⟨rb, psB, EB⟩ := V'
  simp only at CA CB lra lrb ea eb cna cnb hr
  have PA : Hid (∀ p ∈ psA, p.1.length = 32 ∧ p.2.length = 32) := ea
  have PB : Hid (∀ p ∈ psB, p.1.length = 32 ∧ p.2.length = 32) := eb
  have qr' : Hid (∀ w : World, (binOp .neq 24 (digV ra) (digV rb)).run Tryd.prog w = .ok (.bool (!decide (ra = rb))) w) := fun w => run_neD w _ Tryd.underlying24 ra rb lra lrb
  have LLA : Hid ((digC la).length = 32) := by simp [Hid, digC, hla]
  have LLB : Hid ((digC lb).length = 32) := by simp [Hid, digC, hlb]
  have HLA : Hid ((Tryd.prog.info? 24).map (·.size) = some (digC la).length) := by rw [LLA.out]; exact infoD
  have HLB : Hid ((Tryd.prog.info? 24).map (·.size) = some (digC lb).length) := by rw [LLB.out]; exact infoD
  have DA : Hid (Dig (digC ra).toArray) := Dig.of lra
  have DB : Hid (Dig (digC rb).toArray) := Dig.of lrb
  have HRA : Hid ((Tryd.prog.info? 24).map (·.size) = some (digC ra).length) := by rw [digC, List.length_map, lra]; exact infoD
  have HRB : Hid ((Tryd.prog.info? 24).map (·.size) = some (digC rb).length) := by rw [digC, List.length_map, lrb]; exact infoD
  have HR := Lib.hid hr
  have HPA : Hid (pa.length ≤ 1048576) := by simp only [Hid]; rw [hDa.len]; exact hna
  clear hla hlb hDa hDb hT lra lrb ea eb hr hV hV' hna hnb bn
  unfold digV at *
  simp only [show ∀ l : List UInt8, l.map bvI = digC l from fun _ => rfl] at *
  generalize digC la = LA at *
  generalize digC lb = LB at *
  generalize hRA : digC ra = RA at *
  generalize hRB : digC rb = RB at *
  clear hRA hRB
  by_cases hEA : EA = 0
  case neg =>
    have t1 : (EA != 0) = true := by rw [bne_iff_ne]; exact hEA
    have HRV : Hid (r = ([], [], false)) := by
      simp only [Hid]
      rw [HR.out, collV, if_neg (fun h => hEA h.1)]
    clear cna cnb hEA HR
    go_enter Tryd.func26, Tryd.ntmps26
    go_wp2_with (refine wpList_boxBlk rfl 52 (.tmp 2) rfl _ rfl ?_)
    intro w1 n1
    have N1 := Lib.hid n1
    clear n1
    go_wp2_with (refine wpList_boxBlk rfl 52 (.tmp 3) rfl _ rfl ?_)
    intro w2 n2
    have B6 : Hid (Blk w2 w.heap.size 52 (LA ++ [Value.slice Aa na ca]).toArray) := N1.out.blk.fr n2.fr (fun x => x)
    have B7 : Hid (Blk w2 w1.heap.size 52 (LB ++ [Value.slice Ab nb cb]).toArray) := n2.blk
    have F2 := Lib.hid (N1.out.fr.trans n2.fr)
    clear n2 N1
    generalize w.heap.size = g6 at *
    generalize w1.heap.size = g7 at *
    obtain ⟨c6, r6⟩ := proof_cells B6.out LLA.out
    go_wp2_with (refine wpList_load_add rfl 24 (.tmp 18) rfl ⟨g6, 0, none⟩ rfl LA _ r6 Tryd.underlying24 rfl HLA.out ?_)
    go_wp2_with fail
    refine (CA.out _ F2.out).mono ?_
    rintro e w3 ⟨v, rfl, hG⟩
    obtain ⟨A1, c1, rfl, P1, f3⟩ := PairL.of_grew hG rfl PA.out
    have HP1 := Lib.hid P1
    have F3 := Lib.hid (F2.out.trans f3)
    have B7b := Lib.hid (B7.out.fr f3 (fun x => x))
    clear hG P1 f3 B6 B7 c6 r6 F2
    go_wp2_with (refine wpList_allocBlk rfl 24 rfl zero32 zvD zero32c rfl ?_)
    intro w4 n4
    have B11 := Lib.hid n4.blk
    have F4 := Lib.hid (F3.out.trans n4.fr)
    have B7c := Lib.hid (B7b.out.fr n4.fr (fun x => x))
    have HP2 := Lib.hid (HP1.out.fr0 n4.fr)
    have Z3 : Hid (w.heap.size ≤ w3.heap.size ∧ g7 < w3.heap.size ∧ (∀ k, Rows1 (Value.slice A1 psA.length c1) k → k < w3.heap.size)) := ⟨F3.out.size, B7b.out.lt, HP1.out.lt⟩
    clear n4 F3 B7b HP1
    generalize w3.heap.size = g11 at *
    go_wp2_with (refine wpList_storeBlk rfl 24 (.tmp 11) _ rfl g11 RA.toArray rfl rfl _ _ B11.out DA.out.info DA.out.zero DA.out.one ?_)
    intro w5 b5 f5
    have J11 := Lib.hid b5
    have F5 : Hid (Fr Nothing w w5) := F4.out.then_ f5 (fun i hi e => by have e' : i = g11 := e; have := Z3.out.1; omega)
    have B7d := Lib.hid (B7c.out.fr f5 (fun e => by have e' : g7 = g11 := e; have := Z3.out.2.1; omega))
    have HP5 := Lib.hid (HP2.out.fr f5 (fun k hk e => by have e' : k = g11 := e; have := Z3.out.2.2 k hk; omega))
    clear b5 f5 F4 B11 B7c HP2 Z3
    go_wp2
    go_ret3
    rw [HRV.out]
    exact ⟨rfl, F5.out⟩
  subst hEA
  by_cases hEB : EB = 0
  case neg =>
    have t1 : (EB != 0) = true := by rw [bne_iff_ne]; exact hEB
    have HRV : Hid (r = ([], [], false)) := by
      simp only [Hid]
      rw [HR.out, collV, if_neg (fun h => hEB h.2.1)]
    clear cna cnb hEB HR
    go_enter Tryd.func26, Tryd.ntmps26
    go_wp2_with (refine wpList_boxBlk rfl 52 (.tmp 2) rfl _ rfl ?_)
    intro w1 n1
    have N1 := Lib.hid n1
    clear n1
    go_wp2_with (refine wpList_boxBlk rfl 52 (.tmp 3) rfl _ rfl ?_)
    intro w2 n2
    have B6 : Hid (Blk w2 w.heap.size 52 (LA ++ [Value.slice Aa na ca]).toArray) := N1.out.blk.fr n2.fr (fun x => x)
    have B7 : Hid (Blk w2 w1.heap.size 52 (LB ++ [Value.slice Ab nb cb]).toArray) := n2.blk
    have F2 := Lib.hid (N1.out.fr.trans n2.fr)
    clear n2 N1
    generalize w.heap.size = g6 at *
    generalize w1.heap.size = g7 at *
    obtain ⟨c6, r6⟩ := proof_cells B6.out LLA.out
    go_wp2_with (refine wpList_load_add rfl 24 (.tmp 18) rfl ⟨g6, 0, none⟩ rfl LA _ r6 Tryd.underlying24 rfl HLA.out ?_)
    go_wp2_with fail
    refine (CA.out _ F2.out).mono ?_
    rintro e w3 ⟨v, rfl, hG⟩
    obtain ⟨A1, c1, rfl, P1, f3⟩ := PairL.of_grew hG rfl PA.out
    have HP1 := Lib.hid P1
    have F3 := Lib.hid (F2.out.trans f3)
    have B7b := Lib.hid (B7.out.fr f3 (fun x => x))
    clear hG P1 f3 B6 B7 c6 r6 F2
    go_wp2_with (refine wpList_allocBlk rfl 24 rfl zero32 zvD zero32c rfl ?_)
    intro w4 n4
    have B11 := Lib.hid n4.blk
    have F4 := Lib.hid (F3.out.trans n4.fr)
    have B7c := Lib.hid (B7b.out.fr n4.fr (fun x => x))
    have HP2 := Lib.hid (HP1.out.fr0 n4.fr)
    have Z3 : Hid (w.heap.size ≤ w3.heap.size ∧ g7 < w3.heap.size ∧ (∀ k, Rows1 (Value.slice A1 psA.length c1) k → k < w3.heap.size)) := ⟨F3.out.size, B7b.out.lt, HP1.out.lt⟩
    clear n4 F3 B7b HP1
    generalize w3.heap.size = g11 at *
    go_wp2_with (refine wpList_storeBlk rfl 24 (.tmp 11) _ rfl g11 RA.toArray rfl rfl _ _ B11.out DA.out.info DA.out.zero DA.out.one ?_)
    intro w5 b5 f5
    have J11 := Lib.hid b5
    have F5 : Hid (Fr Nothing w w5) := F4.out.then_ f5 (fun i hi e => by have e' : i = g11 := e; have := Z3.out.1; omega)
    have B7d := Lib.hid (B7c.out.fr f5 (fun e => by have e' : g7 = g11 := e; have := Z3.out.2.1; omega))
    have HP5 := Lib.hid (HP2.out.fr f5 (fun k hk e => by have e' : k = g11 := e; have := Z3.out.2.2 k hk; omega))
    clear b5 f5 F4 B11 B7c HP2 Z3
    obtain ⟨c7, r7⟩ := proof_cells B7d.out LLB.out
    go_wp2_with (refine wpList_load_add rfl 24 (.tmp 31) rfl ⟨g7, 0, none⟩ rfl LB _ r7 Tryd.underlying24 rfl HLB.out ?_)
    go_wp2_with fail
    refine (CB.out _ F5.out).mono ?_
    rintro e w6 ⟨v, rfl, hG⟩
    obtain ⟨A2, c2, rfl, P2, f6⟩ := PairL.of_grew hG rfl PB.out
    have HQ1 := Lib.hid P2
    have F6 := Lib.hid (F5.out.trans f6)
    have J11b := Lib.hid (J11.out.fr f6 (fun x => x))
    have HP6 := Lib.hid (HP5.out.fr0 f6)
    clear hG P2 f6 B7d c7 r7 F5 J11 HP5
    go_wp2_with (refine wpList_allocBlk rfl 24 rfl zero32 zvD zero32c rfl ?_)
    intro w7 n7
    have B14 := Lib.hid n7.blk
    have F7 := Lib.hid (F6.out.trans n7.fr)
    have J11c := Lib.hid (J11b.out.fr n7.fr (fun x => x))
    have HP7 := Lib.hid (HP6.out.fr0 n7.fr)
    have HQ7 := Lib.hid (HQ1.out.fr0 n7.fr)
    have Z6 : Hid (w.heap.size ≤ w6.heap.size ∧ g11 < w6.heap.size ∧ (∀ k, Rows1 (Value.slice A1 psA.length c1) k → k < w6.heap.size) ∧ (∀ k, Rows1 (Value.slice A2 psB.length c2) k → k < w6.heap.size)) := ⟨F6.out.size, J11b.out.lt, HP6.out.lt, HQ1.out.lt⟩
    clear n7 F6 J11b HP6 HQ1
    generalize w6.heap.size = g14 at *
    go_wp2_with (refine wpList_storeBlk rfl 24 (.tmp 14) _ rfl g14 RB.toArray rfl rfl _ _ B14.out DB.out.info DB.out.zero DB.out.one ?_)
    intro w8 b8 f8
    have J14 := Lib.hid b8
    have F8 : Hid (Fr Nothing w w8) := F7.out.then_ f8 (fun i hi e => by have e' : i = g14 := e; have := Z6.out.1; omega)
    have J11d := Lib.hid (J11c.out.fr f8 (fun e => by have e' : g11 = g14 := e; have := Z6.out.2.1; omega))
    have HP8 := Lib.hid (HP7.out.fr f8 (fun k hk e => by have e' : k = g14 := e; have := Z6.out.2.2.1 k hk; omega))
    have HQ8 := Lib.hid (HQ7.out.fr f8 (fun k hk e => by have e' : k = g14 := e; have := Z6.out.2.2.2 k hk; omega))
    clear b8 f8 F7 B14 J11c HP7 HQ7 Z6
    go_wp2
    go_ret3
    rw [HRV.out]
    exact ⟨rfl, F8.out⟩
  subst hEB
  by_cases hroot : ra = rb
  case neg =>
    have qr : Hid (∀ w : World, (binOp .neq 24 (.agg RA.toArray) (.agg RB.toArray)).run Tryd.prog w = .ok (.bool true) w) := fun w => by
      rw [qr'.out, decide_eq_false hroot]
      rfl
    have HRV : Hid (r = ([], [], false)) := by
      simp only [Hid]
      rw [HR.out, collV, if_neg (fun h => hroot h.2.2)]
    clear cna cnb hroot HR qr'
    go_enter Tryd.func26, Tryd.ntmps26
    go_wp2_with (refine wpList_boxBlk rfl 52 (.tmp 2) rfl _ rfl ?_)
    intro w1 n1
    have N1 := Lib.hid n1
    clear n1
    go_wp2_with (refine wpList_boxBlk rfl 52 (.tmp 3) rfl _ rfl ?_)
    intro w2 n2
    have B6 : Hid (Blk w2 w.heap.size 52 (LA ++ [Value.slice Aa na ca]).toArray) := N1.out.blk.fr n2.fr (fun x => x)
    have B7 : Hid (Blk w2 w1.heap.size 52 (LB ++ [Value.slice Ab nb cb]).toArray) := n2.blk
    have F2 := Lib.hid (N1.out.fr.trans n2.fr)
    clear n2 N1
    generalize w.heap.size = g6 at *
    generalize w1.heap.size = g7 at *
    obtain ⟨c6, r6⟩ := proof_cells B6.out LLA.out
    go_wp2_with (refine wpList_load_add rfl 24 (.tmp 18) rfl ⟨g6, 0, none⟩ rfl LA _ r6 Tryd.underlying24 rfl HLA.out ?_)
    go_wp2_with fail
    refine (CA.out _ F2.out).mono ?_
    rintro e w3 ⟨v, rfl, hG⟩
    obtain ⟨A1, c1, rfl, P1, f3⟩ := PairL.of_grew hG rfl PA.out
    have HP1 := Lib.hid P1
    have F3 := Lib.hid (F2.out.trans f3)
    have B7b := Lib.hid (B7.out.fr f3 (fun x => x))
    clear hG P1 f3 B6 B7 c6 r6 F2
    go_wp2_with (refine wpList_allocBlk rfl 24 rfl zero32 zvD zero32c rfl ?_)
    intro w4 n4
    have B11 := Lib.hid n4.blk
    have F4 := Lib.hid (F3.out.trans n4.fr)
    have B7c := Lib.hid (B7b.out.fr n4.fr (fun x => x))
    have HP2 := Lib.hid (HP1.out.fr0 n4.fr)
    have Z3 : Hid (w.heap.size ≤ w3.heap.size ∧ g7 < w3.heap.size ∧ (∀ k, Rows1 (Value.slice A1 psA.length c1) k → k < w3.heap.size)) := ⟨F3.out.size, B7b.out.lt, HP1.out.lt⟩
    clear n4 F3 B7b HP1
    generalize w3.heap.size = g11 at *
    go_wp2_with (refine wpList_storeBlk rfl 24 (.tmp 11) _ rfl g11 RA.toArray rfl rfl _ _ B11.out DA.out.info DA.out.zero DA.out.one ?_)
    intro w5 b5 f5
    have J11 := Lib.hid b5
    have F5 : Hid (Fr Nothing w w5) := F4.out.then_ f5 (fun i hi e => by have e' : i = g11 := e; have := Z3.out.1; omega)
    have B7d := Lib.hid (B7c.out.fr f5 (fun e => by have e' : g7 = g11 := e; have := Z3.out.2.1; omega))
    have HP5 := Lib.hid (HP2.out.fr f5 (fun k hk e => by have e' : k = g11 := e; have := Z3.out.2.2 k hk; omega))
    clear b5 f5 F4 B11 B7c HP2 Z3
    obtain ⟨c7, r7⟩ := proof_cells B7d.out LLB.out
    go_wp2_with (refine wpList_load_add rfl 24 (.tmp 31) rfl ⟨g7, 0, none⟩ rfl LB _ r7 Tryd.underlying24 rfl HLB.out ?_)
    go_wp2_with fail
    refine (CB.out _ F5.out).mono ?_
    rintro e w6 ⟨v, rfl, hG⟩
    obtain ⟨A2, c2, rfl, P2, f6⟩ := PairL.of_grew hG rfl PB.out
    have HQ1 := Lib.hid P2
    have F6 := Lib.hid (F5.out.trans f6)
    have J11b := Lib.hid (J11.out.fr f6 (fun x => x))
    have HP6 := Lib.hid (HP5.out.fr0 f6)
    clear hG P2 f6 B7d c7 r7 F5 J11 HP5
    go_wp2_with (refine wpList_allocBlk rfl 24 rfl zero32 zvD zero32c rfl ?_)
    intro w7 n7
    have B14 := Lib.hid n7.blk
    have F7 := Lib.hid (F6.out.trans n7.fr)
    have J11c := Lib.hid (J11b.out.fr n7.fr (fun x => x))
    have HP7 := Lib.hid (HP6.out.fr0 n7.fr)
    have HQ7 := Lib.hid (HQ1.out.fr0 n7.fr)
    have Z6 : Hid (w.heap.size ≤ w6.heap.size ∧ g11 < w6.heap.size ∧ (∀ k, Rows1 (Value.slice A1 psA.length c1) k → k < w6.heap.size) ∧ (∀ k, Rows1 (Value.slice A2 psB.length c2) k → k < w6.heap.size)) := ⟨F6.out.size, J11b.out.lt, HP6.out.lt, HQ1.out.lt⟩
    clear n7 F6 J11b HP6 HQ1
    generalize w6.heap.size = g14 at *
    go_wp2_with (refine wpList_storeBlk rfl 24 (.tmp 14) _ rfl g14 RB.toArray rfl rfl _ _ B14.out DB.out.info DB.out.zero DB.out.one ?_)
    intro w8 b8 f8
    have J14 := Lib.hid b8
    have F8 : Hid (Fr Nothing w w8) := F7.out.then_ f8 (fun i hi e => by have e' : i = g14 := e; have := Z6.out.1; omega)
    have J11d := Lib.hid (J11c.out.fr f8 (fun e => by have e' : g11 = g14 := e; have := Z6.out.2.1; omega))
    have HP8 := Lib.hid (HP7.out.fr f8 (fun k hk e => by have e' : k = g14 := e; have := Z6.out.2.2.1 k hk; omega))
    have HQ8 := Lib.hid (HQ7.out.fr f8 (fun k hk e => by have e' : k = g14 := e; have := Z6.out.2.2.2 k hk; omega))
    clear b8 f8 F7 B14 J11c HP7 HQ7 Z6
    go_upto_region 5 with fail
    refine wp_region_sq 7 Nothing [Is (.int .i64 0), Is (.bool false), Is (.bool false), Is (.agg RA.toArray), Is (.agg RB.toArray), Is (.bool true), Is (.bool true)] [] (fun _ => True) (fun _ _ => false) (by kernel_rfl) (by kernel_rfl) (by kernel_rfl) ⟨Is.stable _, Is.stable _, Is.stable _, Is.stable _, Is.stable _, Is.stable _, Is.stable _, trivial⟩ trivial (fun _ _ _ _ h => h) trivial ?_ ?_
    · refine ⟨fun u w' d hf hR k1 k0 kM => ?_, fun u w' d hf hR k1 k0 kM => ?_, fun u w' d hf hR k1 k0 kM => ?_, fun u w' d hf hR k1 k0 kM => ?_, fun u w' d hf hR k1 k0 kM => ?_, fun u w' d hf hR k1 k0 kM => ?_, fun u w' d hf hR k1 k0 kM => ?_, trivial⟩
      all_goals simp only [List.take_succ_cons, List.take_zero, List.map_cons, List.map_nil, puts, Act.put, List.setIfInBounds_toArray, List.set_cons_zero, List.set_cons_succ, Nat.reduceAdd, Nat.zero_add]
      · clear hR k1 k0 kM
        refine .inl ⟨by kernel_rfl, ?_⟩
        go_simp
        exact ⟨_, rfl, Fr.refl _ _, rfl, trivial⟩
      · have h0 : u 0 = _ := hR 0 (by kernel_rfl)
        clear hR k1 k0 kM
        simp only [h0]
        refine .inl ⟨by kernel_rfl, ?_⟩
        go_simp
        exact ⟨_, rfl, Fr.refl _ _, rfl, trivial⟩
      · have h1 : u 1 = _ := hR 1 (by kernel_rfl)
        clear hR k1 k0 kM
        simp only [h1]
        refine .inl ⟨by kernel_rfl, ?_⟩
        go_simp
        exact ⟨_, rfl, Fr.refl _ _, rfl, trivial⟩
      · have h2 : u 2 = _ := hR 2 (by kernel_rfl)
        clear hR k1 k0 kM
        simp only [h2]
        refine .inl ⟨by kernel_rfl, ?_⟩
        exact wp_load_mid _ _ rfl g11 0 rfl RA _ (range_blk (J11d.out.fr hf (fun x => x))) Tryd.underlying24 rfl HRA.out ⟨_, rfl, Fr.refl _ _, rfl, trivial⟩
      · have h2 : u 2 = _ := hR 2 (by kernel_rfl)
        clear hR k1 k0 kM
        simp only [h2]
        refine .inl ⟨by kernel_rfl, ?_⟩
        exact wp_load_mid _ _ rfl g14 0 rfl RB _ (range_blk (J14.out.fr hf (fun x => x))) Tryd.underlying24 rfl HRB.out ⟨_, rfl, Fr.refl _ _, rfl, trivial⟩
      · have h3 : u 3 = _ := hR 3 (by kernel_rfl)
        have h4 : u 4 = _ := hR 4 (by kernel_rfl)
        have h2 : u 2 = _ := hR 2 (by kernel_rfl)
        clear hR k1 k0 kM
        simp only [h3, h4, h2]
        refine .inl ⟨by kernel_rfl, ?_⟩
        exact wp_binAgg _ _ _ _ _ rfl _ _ rfl rfl Tryd.eqGuardType24 _ (qr.out _) ⟨_, rfl, Fr.refl _ _, rfl, trivial⟩
      · have h2 : u 2 = _ := hR 2 (by kernel_rfl)
        have h5 : u 5 = _ := hR 5 (by kernel_rfl)
        clear hR k1 k0 kM
        simp only [h2, h5]
        refine .inl ⟨by kernel_rfl, ?_⟩
        go_simp
        exact ⟨_, rfl, Fr.refl _ _, rfl, trivial⟩
    · intro u w' hf hR kM
      have h6 : u 6 = _ := hR 6 (by omega)
      clear hR kM
      simp only [List.take_succ_cons, List.take_zero, List.map_cons, List.map_nil, puts, Act.put, List.setIfInBounds_toArray, List.set_cons_zero, List.set_cons_succ, List.drop_succ_cons, List.drop_zero, Nat.reduceAdd, Nat.zero_add, h6]
      have F9 := Lib.hid (F8.out.trans hf)
      have HP9 := Lib.hid (HP8.out.fr0 hf)
      have HQ9 := Lib.hid (HQ8.out.fr0 hf)
      clear hf F8 HP8 HQ8 J11d J14
      generalize w' = w9 at *
      go_wp2
      go_ret3
      rw [HRV.out]
      exact ⟨rfl, F9.out⟩
  have qr : Hid (∀ w : World, (binOp .neq 24 (.agg RA.toArray) (.agg RB.toArray)).run Tryd.prog w = .ok (.bool false) w) := fun w => by
    rw [qr'.out, decide_eq_true hroot]
    rfl
  have HRV : Hid (r = (match diffAt psA psB psA.length with | some (a, b) => (joinL 1 [a.1, a.2], joinL 1 [b.1, b.2], true) | none => ([], [], false))) := by
    simp only [Hid]
    rw [HR.out, collV, if_pos ⟨rfl, rfl, hroot⟩]
    rfl
  have hlen : psA.length = psB.length := by
    have h1 := cna rfl
    have h2 := cnb rfl
    omega
  have hsmall : psA.length ≤ 1048576 := by
    have h1 := cna rfl
    have := HPA.out
    omega
  have HNB := Lib.hid hlen
  have HNS := Lib.hid hsmall
  clear cna cnb hroot HR qr' hlen hsmall
  go_enter Tryd.func26, Tryd.ntmps26
  go_wp2_with (refine wpList_boxBlk rfl 52 (.tmp 2) rfl _ rfl ?_)
  intro w1 n1
  have N1 := Lib.hid n1
  clear n1
  go_wp2_with (refine wpList_boxBlk rfl 52 (.tmp 3) rfl _ rfl ?_)
  intro w2 n2
  have B6 : Hid (Blk w2 w.heap.size 52 (LA ++ [Value.slice Aa na ca]).toArray) := N1.out.blk.fr n2.fr (fun x => x)
  have B7 : Hid (Blk w2 w1.heap.size 52 (LB ++ [Value.slice Ab nb cb]).toArray) := n2.blk
  have F2 := Lib.hid (N1.out.fr.trans n2.fr)
  clear n2 N1
  generalize w.heap.size = g6 at *
  generalize w1.heap.size = g7 at *
  obtain ⟨c6, r6⟩ := proof_cells B6.out LLA.out
  go_wp2_with (refine wpList_load_add rfl 24 (.tmp 18) rfl ⟨g6, 0, none⟩ rfl LA _ r6 Tryd.underlying24 rfl HLA.out ?_)
  go_wp2_with fail
  refine (CA.out _ F2.out).mono ?_
  rintro e w3 ⟨v, rfl, hG⟩
  obtain ⟨A1, c1, rfl, P1, f3⟩ := PairL.of_grew hG rfl PA.out
  have HP1 := Lib.hid P1
  have F3 := Lib.hid (F2.out.trans f3)
  have B7b := Lib.hid (B7.out.fr f3 (fun x => x))
  clear hG P1 f3 B6 B7 c6 r6 F2
  go_wp2_with (refine wpList_allocBlk rfl 24 rfl zero32 zvD zero32c rfl ?_)
  intro w4 n4
  have B11 := Lib.hid n4.blk
  have F4 := Lib.hid (F3.out.trans n4.fr)
  have B7c := Lib.hid (B7b.out.fr n4.fr (fun x => x))
  have HP2 := Lib.hid (HP1.out.fr0 n4.fr)
  have Z3 : Hid (w.heap.size ≤ w3.heap.size ∧ g7 < w3.heap.size ∧ (∀ k, Rows1 (Value.slice A1 psA.length c1) k → k < w3.heap.size)) := ⟨F3.out.size, B7b.out.lt, HP1.out.lt⟩
  clear n4 F3 B7b HP1
  generalize w3.heap.size = g11 at *
  go_wp2_with (refine wpList_storeBlk rfl 24 (.tmp 11) _ rfl g11 RA.toArray rfl rfl _ _ B11.out DA.out.info DA.out.zero DA.out.one ?_)
  intro w5 b5 f5
  have J11 := Lib.hid b5
  have F5 : Hid (Fr Nothing w w5) := F4.out.then_ f5 (fun i hi e => by have e' : i = g11 := e; have := Z3.out.1; omega)
  have B7d := Lib.hid (B7c.out.fr f5 (fun e => by have e' : g7 = g11 := e; have := Z3.out.2.1; omega))
  have HP5 := Lib.hid (HP2.out.fr f5 (fun k hk e => by have e' : k = g11 := e; have := Z3.out.2.2 k hk; omega))
  clear b5 f5 F4 B11 B7c HP2 Z3
  obtain ⟨c7, r7⟩ := proof_cells B7d.out LLB.out
  go_wp2_with (refine wpList_load_add rfl 24 (.tmp 31) rfl ⟨g7, 0, none⟩ rfl LB _ r7 Tryd.underlying24 rfl HLB.out ?_)
  go_wp2_with fail
  refine (CB.out _ F5.out).mono ?_
  rintro e w6 ⟨v, rfl, hG⟩
  obtain ⟨A2, c2, rfl, P2, f6⟩ := PairL.of_grew hG rfl PB.out
  have HQ1 := Lib.hid P2
  have F6 := Lib.hid (F5.out.trans f6)
  have J11b := Lib.hid (J11.out.fr f6 (fun x => x))
  have HP6 := Lib.hid (HP5.out.fr0 f6)
  clear hG P2 f6 B7d c7 r7 F5 J11 HP5
  go_wp2_with (refine wpList_allocBlk rfl 24 rfl zero32 zvD zero32c rfl ?_)
  intro w7 n7
  have B14 := Lib.hid n7.blk
  have F7 := Lib.hid (F6.out.trans n7.fr)
  have J11c := Lib.hid (J11b.out.fr n7.fr (fun x => x))
  have HP7 := Lib.hid (HP6.out.fr0 n7.fr)
  have HQ7 := Lib.hid (HQ1.out.fr0 n7.fr)
  have Z6 : Hid (w.heap.size ≤ w6.heap.size ∧ g11 < w6.heap.size ∧ (∀ k, Rows1 (Value.slice A1 psA.length c1) k → k < w6.heap.size) ∧ (∀ k, Rows1 (Value.slice A2 psB.length c2) k → k < w6.heap.size)) := ⟨F6.out.size, J11b.out.lt, HP6.out.lt, HQ1.out.lt⟩
  clear n7 F6 J11b HP6 HQ1
  generalize w6.heap.size = g14 at *
  go_wp2_with (refine wpList_storeBlk rfl 24 (.tmp 14) _ rfl g14 RB.toArray rfl rfl _ _ B14.out DB.out.info DB.out.zero DB.out.one ?_)
  intro w8 b8 f8
  have J14 := Lib.hid b8
  have F8 : Hid (Fr Nothing w w8) := F7.out.then_ f8 (fun i hi e => by have e' : i = g14 := e; have := Z6.out.1; omega)
  have J11d := Lib.hid (J11c.out.fr f8 (fun e => by have e' : g11 = g14 := e; have := Z6.out.2.1; omega))
  have HP8 := Lib.hid (HP7.out.fr f8 (fun k hk e => by have e' : k = g14 := e; have := Z6.out.2.2.1 k hk; omega))
  have HQ8 := Lib.hid (HQ7.out.fr f8 (fun k hk e => by have e' : k = g14 := e; have := Z6.out.2.2.2 k hk; omega))
  clear b8 f8 F7 B14 J11c HP7 HQ7 Z6
  go_upto_region 5 with fail
  refine wp_region_sq 7 Nothing [Is (.int .i64 0), Is (.bool false), Is (.bool false), Is (.agg RA.toArray), Is (.agg RB.toArray), Is (.bool false), Is (.bool false)] [] (fun _ => True) (fun _ _ => false) (by kernel_rfl) (by kernel_rfl) (by kernel_rfl) ⟨Is.stable _, Is.stable _, Is.stable _, Is.stable _, Is.stable _, Is.stable _, Is.stable _, trivial⟩ trivial (fun _ _ _ _ h => h) trivial ?_ ?_
  · refine ⟨fun u w' d hf hR k1 k0 kM => ?_, fun u w' d hf hR k1 k0 kM => ?_, fun u w' d hf hR k1 k0 kM => ?_, fun u w' d hf hR k1 k0 kM => ?_, fun u w' d hf hR k1 k0 kM => ?_, fun u w' d hf hR k1 k0 kM => ?_, fun u w' d hf hR k1 k0 kM => ?_, trivial⟩
    all_goals simp only [List.take_succ_cons, List.take_zero, List.map_cons, List.map_nil, puts, Act.put, List.setIfInBounds_toArray, List.set_cons_zero, List.set_cons_succ, Nat.reduceAdd, Nat.zero_add]
    · clear hR k1 k0 kM
      refine .inl ⟨by kernel_rfl, ?_⟩
      go_simp
      exact ⟨_, rfl, Fr.refl _ _, rfl, trivial⟩
    · have h0 : u 0 = _ := hR 0 (by kernel_rfl)
      clear hR k1 k0 kM
      simp only [h0]
      refine .inl ⟨by kernel_rfl, ?_⟩
      go_simp
      exact ⟨_, rfl, Fr.refl _ _, rfl, trivial⟩
    · have h1 : u 1 = _ := hR 1 (by kernel_rfl)
      clear hR k1 k0 kM
      simp only [h1]
      refine .inl ⟨by kernel_rfl, ?_⟩
      go_simp
      exact ⟨_, rfl, Fr.refl _ _, rfl, trivial⟩
    · have h2 : u 2 = _ := hR 2 (by kernel_rfl)
      clear hR k1 k0 kM
      simp only [h2]
      refine .inl ⟨by kernel_rfl, ?_⟩
      exact wp_load_mid _ _ rfl g11 0 rfl RA _ (range_blk (J11d.out.fr hf (fun x => x))) Tryd.underlying24 rfl HRA.out ⟨_, rfl, Fr.refl _ _, rfl, trivial⟩
    · have h2 : u 2 = _ := hR 2 (by kernel_rfl)
      clear hR k1 k0 kM
      simp only [h2]
      refine .inl ⟨by kernel_rfl, ?_⟩
      exact wp_load_mid _ _ rfl g14 0 rfl RB _ (range_blk (J14.out.fr hf (fun x => x))) Tryd.underlying24 rfl HRB.out ⟨_, rfl, Fr.refl _ _, rfl, trivial⟩
    · have h3 : u 3 = _ := hR 3 (by kernel_rfl)
      have h4 : u 4 = _ := hR 4 (by kernel_rfl)
      have h2 : u 2 = _ := hR 2 (by kernel_rfl)
      clear hR k1 k0 kM
      simp only [h3, h4, h2]
      refine .inl ⟨by kernel_rfl, ?_⟩
      exact wp_binAgg _ _ _ _ _ rfl _ _ rfl rfl Tryd.eqGuardType24 _ (qr.out _) ⟨_, rfl, Fr.refl _ _, rfl, trivial⟩
    · have h2 : u 2 = _ := hR 2 (by kernel_rfl)
      have h5 : u 5 = _ := hR 5 (by kernel_rfl)
      clear hR k1 k0 kM
      simp only [h2, h5]
      refine .inl ⟨by kernel_rfl, ?_⟩
      go_simp
      exact ⟨_, rfl, Fr.refl _ _, rfl, trivial⟩
  · intro u w' hf hR kM
    have h6 : u 6 = _ := hR 6 (by omega)
    clear hR kM
    simp only [List.take_succ_cons, List.take_zero, List.map_cons, List.map_nil, puts, Act.put, List.setIfInBounds_toArray, List.set_cons_zero, List.set_cons_succ, List.drop_succ_cons, List.drop_zero, Nat.reduceAdd, Nat.zero_add, h6]
    have F9 := Lib.hid (F8.out.trans hf)
    have HP9 := Lib.hid (HP8.out.fr0 hf)
    have HQ9 := Lib.hid (HQ8.out.fr0 hf)
    clear hf F8 HP8 HQ8 J11d J14
    generalize w' = w9 at *
    rw [← HNB.out] at HQ9
    have HNN : Hid (psB.length = psA.length) := HNB.out.symm
    rw [HNN.out]
    have NL : Hid (psA.length = psA.length) := rfl
    generalize hN : psA.length = N at *
    have HN := Lib.hid hN
    have hn4 : N ≤ 1048576 := HNS.out
    clear hN
    go_wp2
    go_loopw [16] (fun v wr => ∃ k : Nat, k ≤ N ∧ v = .int .i64 ((k : Int) - 1) ∧ Fr Nothing w9 wr ∧ diffAt psA psB N = diffAt psA psB k) (fun v _ => (intOf v + 1).toNat)
    case atStart => exact ⟨N, Nat.le_refl _, rfl, Fr.refl _ _, rfl⟩
    case round =>
      obtain ⟨k, hk, rfl, hf, hd⟩ := hrel
      have FW := Lib.hid hf
      have HDD := Lib.hid hd
      clear hf hd
      rcases k with _ | k
      · have HD0 : Hid (diffAt psA psB N = none) := HDD.out
        have e0 : ((0 : Nat) : Int) - 1 = -1 := rfl
        rw [e0]
        have FE := Lib.hid (F9.out.trans FW.out)
        go_wp2
        go_ret3
        rw [HRV.out, HD0.out]
        exact ⟨rfl, FE.out⟩
      · have e1 : ((k + 1 : Nat) : Int) - 1 = (k : Int) := by omega
        rw [e1]
        clear e1
        have kA : k < psA.length := by rw [HN.out]; omega
        have kB : k < psB.length := by rw [HNN.out]; omega
        obtain ⟨ad1, rfl, hx⟩ := (HP9.out.fr0 FW.out).at_ kA
        obtain ⟨ad2, rfl, hy⟩ := (HQ9.out.fr0 FW.out).at_ kB
        have hX : (psA.getD k ([], [])).1.length = 32 ∧ (psA.getD k ([], [])).2.length = 32 := HP9.out.each _ (by rw [List.getD_eq_getElem?_getD, List.getElem?_eq_getElem kA]; exact List.getElem_mem _)
        have hY : (psB.getD k ([], [])).1.length = 32 ∧ (psB.getD k ([], [])).2.length = 32 := HQ9.out.each _ (by rw [List.getD_eq_getElem?_getD, List.getElem?_eq_getElem kB]; exact List.getElem_mem _)
        have HDK : Hid (diffAt psA psB N = if psA.getD k ([], []) = psB.getD k ([], []) then diffAt psA psB k else some (psA.getD k ([], []), psB.getD k ([], []))) := HDD.out
        have qp' := Lib.hid (fun w : World => run_neP w _ _ hX hY)
        have TX : Hid (∀ w', Calls Tryd.prog 57 #[.agg (pairC (psA.getD k ([], []))).toArray] w' (Same' w' (.string ⟨(joinL 1 [(psA.getD k ([], [])).1, (psA.getD k ([], [])).2]).toArray⟩))) := fun w' => text_any _ _ hX.1 hX.2 w'
        have TY : Hid (∀ w', Calls Tryd.prog 57 #[.agg (pairC (psB.getD k ([], []))).toArray] w' (Same' w' (.string ⟨(joinL 1 [(psB.getD k ([], [])).1, (psB.getD k ([], [])).2]).toArray⟩))) := fun w' => text_any _ _ hY.1 hY.2 w'
        have IXV : Hid ((Tryd.prog.info? 94).map (·.size) = some (pairC (psA.getD k ([], []))).length) := by rw [pairC_length hX]; exact infoPs
        have IYV : Hid ((Tryd.prog.info? 94).map (·.size) = some (pairC (psB.getD k ([], []))).length) := by rw [pairC_length hY]; exact infoPs
        have CX := Lib.hid hx
        have CY := Lib.hid hy
        have i1 : (k : Int) < (N : Int) := by omega
        have k4 : k ≤ 1048576 := by omega
        clear hx hy hX hY HDD kA kB
        generalize psA.getD k ([], []) = x at *
        generalize psB.getD k ([], []) = y at *
        generalize hXV : pairC x = XV at *
        generalize hYV : pairC y = YV at *
        obtain ⟨XT, hXT⟩ : ∃ XT : ByteArray, XT = ⟨(joinL 1 [x.1, x.2]).toArray⟩ := ⟨_, rfl⟩
        obtain ⟨YT, hYT⟩ : ∃ YT : ByteArray, YT = ⟨(joinL 1 [y.1, y.2]).toArray⟩ := ⟨_, rfl⟩
        rw [← hXT] at TX
        rw [← hYT] at TY
        have HXT := Lib.hid hXT
        have HYT := Lib.hid hYT
        clear hXV hYV hXT hYT
        by_cases hxy : x = y
        · have qp : Hid (∀ w : World, (binOp .neq 94 (.agg XV.toArray) (.agg YV.toArray)).run Tryd.prog w = .ok (.bool false) w) := fun w => by
            rw [qp'.out w, decide_eq_true hxy]
            rfl
          have HDE : Hid (diffAt psA psB N = diffAt psA psB k) := by simp only [Hid]; rw [HDK.out, if_pos hxy]
          clear hxy HDK qp'
          go_upto_region 10 with fail
          refine wp_region_st 9 Nothing [Is (.slice (some ad1) N c1), Is (.int .i64 k), Is (.pointer (some (ad1.add (k * 64)))), Is (.agg XV.toArray), Is (.slice (some ad2) N c2), Is (.int .i64 k), Is (.pointer (some (ad2.add (k * 64)))), Is (.agg YV.toArray), Is (.bool false)] [] (fun _ => True) (fun _ _ => false) (by kernel_rfl) (by kernel_rfl) (by kernel_rfl) (by kernel_rfl) ⟨Is.stable _, Is.stable _, Is.stable _, Is.stable _, Is.stable _, Is.stable _, Is.stable _, Is.stable _, Is.stable _, trivial⟩ trivial (fun _ _ _ _ h => h) trivial ?_ ?_
          · refine ⟨fun u w' d hf hR k1 k0 kM => ?_, fun u w' d hf hR k1 k0 kM => ?_, fun u w' d hf hR k1 k0 kM => ?_, fun u w' d hf hR k1 k0 kM => ?_, fun u w' d hf hR k1 k0 kM => ?_, fun u w' d hf hR k1 k0 kM => ?_, fun u w' d hf hR k1 k0 kM => ?_, fun u w' d hf hR k1 k0 kM => ?_, fun u w' d hf hR k1 k0 kM => ?_, trivial⟩
            all_goals simp only [List.take_succ_cons, List.take_zero, List.map_cons, List.map_nil, puts, Act.put, List.setIfInBounds_toArray, List.set_cons_zero, List.set_cons_succ, Nat.reduceAdd, Nat.zero_add]
            · clear hR k1 k0 kM
              refine .inl ⟨by kernel_rfl, ?_⟩
              go_simp
              exact ⟨_, rfl, Fr.refl _ _, rfl, trivial⟩
            · clear hR k1 k0 kM
              refine .inl ⟨by kernel_rfl, ?_⟩
              go_simp
              exact ⟨_, rfl, Fr.refl _ _, rfl, trivial⟩
            · have h0 : u 0 = _ := hR 0 (by kernel_rfl)
              have h1 : u 1 = _ := hR 1 (by kernel_rfl)
              clear hR k1 k0 kM
              simp only [h0, h1]
              refine .inl ⟨by kernel_rfl, ?_⟩
              go_simp
              exact ⟨_, rfl, Fr.refl _ _, rfl, trivial⟩
            · have h2 : u 2 = _ := hR 2 (by kernel_rfl)
              clear hR k1 k0 kM
              simp only [h2]
              refine .inl ⟨by kernel_rfl, ?_⟩
              exact wp_load_add _ _ rfl (ad1.add (k * 64)) rfl XV _ (fun j v hv => hf.cellSome (CX.out j v hv) (fun x => x)) Tryd.underlying94 rfl IXV.out ⟨_, rfl, Fr.refl _ _, rfl, trivial⟩
            · clear hR k1 k0 kM
              refine .inl ⟨by kernel_rfl, ?_⟩
              go_simp
              exact ⟨_, rfl, Fr.refl _ _, rfl, trivial⟩
            · clear hR k1 k0 kM
              refine .inl ⟨by kernel_rfl, ?_⟩
              go_simp
              exact ⟨_, rfl, Fr.refl _ _, rfl, trivial⟩
            · have h4 : u 4 = _ := hR 4 (by kernel_rfl)
              have h5 : u 5 = _ := hR 5 (by kernel_rfl)
              clear hR k1 k0 kM
              simp only [h4, h5]
              refine .inl ⟨by kernel_rfl, ?_⟩
              go_simp
              exact ⟨_, rfl, Fr.refl _ _, rfl, trivial⟩
            · have h6 : u 6 = _ := hR 6 (by kernel_rfl)
              clear hR k1 k0 kM
              simp only [h6]
              refine .inl ⟨by kernel_rfl, ?_⟩
              exact wp_load_add _ _ rfl (ad2.add (k * 64)) rfl YV _ (fun j v hv => hf.cellSome (CY.out j v hv) (fun x => x)) Tryd.underlying94 rfl IYV.out ⟨_, rfl, Fr.refl _ _, rfl, trivial⟩
            · have h3 : u 3 = _ := hR 3 (by kernel_rfl)
              have h7 : u 7 = _ := hR 7 (by kernel_rfl)
              clear hR k1 k0 kM
              simp only [h3, h7]
              refine .inl ⟨by kernel_rfl, ?_⟩
              exact wp_binAgg _ _ _ _ _ rfl _ _ rfl rfl Tryd.eqGuardType94 _ (qp.out _) ⟨_, rfl, Fr.refl _ _, rfl, trivial⟩
          · intro u w' hf hR kM
            have h8 : u 8 = _ := hR 8 (by omega)
            clear hR kM
            simp only [List.take_succ_cons, List.take_zero, List.map_cons, List.map_nil, puts, Act.put, List.setIfInBounds_toArray, List.set_cons_zero, List.set_cons_succ, List.drop_succ_cons, List.drop_zero, Nat.reduceAdd, Nat.zero_add, h8]
            have FK := Lib.hid (FW.out.trans hf)
            have CX2 : Hid (∀ j v, XV[j]? = some v → w'.cell? ((ad1.add (k * 64)).add j) = some v) := fun j v hv => hf.cellSome (CX.out j v hv) (fun x => x)
            have CY2 : Hid (∀ j v, YV[j]? = some v → w'.cell? ((ad2.add (k * 64)).add j) = some v) := fun j v hv => hf.cellSome (CY.out j v hv) (fun x => x)
            clear hf FW CX CY
            generalize w' = wk at *
            go_wp2
            go_roundw
            case rel => exact ⟨k, by omega, rfl, FK.out, HDE.out⟩
            case measure => simp [intOf]
        · have qp : Hid (∀ w : World, (binOp .neq 94 (.agg XV.toArray) (.agg YV.toArray)).run Tryd.prog w = .ok (.bool true) w) := fun w => by
            rw [qp'.out w, decide_eq_false hxy]
            rfl
          have HRE : Hid (r = (joinL 1 [x.1, x.2], joinL 1 [y.1, y.2], true)) := by
            simp only [Hid]
            rw [HRV.out, HDK.out, if_neg hxy]
          clear hxy HDK qp'
          go_upto_region 10 with fail
          refine wp_region_st 9 Nothing [Is (.slice (some ad1) N c1), Is (.int .i64 k), Is (.pointer (some (ad1.add (k * 64)))), Is (.agg XV.toArray), Is (.slice (some ad2) N c2), Is (.int .i64 k), Is (.pointer (some (ad2.add (k * 64)))), Is (.agg YV.toArray), Is (.bool true)] [] (fun _ => True) (fun _ _ => false) (by kernel_rfl) (by kernel_rfl) (by kernel_rfl) (by kernel_rfl) ⟨Is.stable _, Is.stable _, Is.stable _, Is.stable _, Is.stable _, Is.stable _, Is.stable _, Is.stable _, Is.stable _, trivial⟩ trivial (fun _ _ _ _ h => h) trivial ?_ ?_
          · refine ⟨fun u w' d hf hR k1 k0 kM => ?_, fun u w' d hf hR k1 k0 kM => ?_, fun u w' d hf hR k1 k0 kM => ?_, fun u w' d hf hR k1 k0 kM => ?_, fun u w' d hf hR k1 k0 kM => ?_, fun u w' d hf hR k1 k0 kM => ?_, fun u w' d hf hR k1 k0 kM => ?_, fun u w' d hf hR k1 k0 kM => ?_, fun u w' d hf hR k1 k0 kM => ?_, trivial⟩
            all_goals simp only [List.take_succ_cons, List.take_zero, List.map_cons, List.map_nil, puts, Act.put, List.setIfInBounds_toArray, List.set_cons_zero, List.set_cons_succ, Nat.reduceAdd, Nat.zero_add]
            · clear hR k1 k0 kM
              refine .inl ⟨by kernel_rfl, ?_⟩
              go_simp
              exact ⟨_, rfl, Fr.refl _ _, rfl, trivial⟩
            · clear hR k1 k0 kM
              refine .inl ⟨by kernel_rfl, ?_⟩
              go_simp
              exact ⟨_, rfl, Fr.refl _ _, rfl, trivial⟩
            · have h0 : u 0 = _ := hR 0 (by kernel_rfl)
              have h1 : u 1 = _ := hR 1 (by kernel_rfl)
              clear hR k1 k0 kM
              simp only [h0, h1]
              refine .inl ⟨by kernel_rfl, ?_⟩
              go_simp
              exact ⟨_, rfl, Fr.refl _ _, rfl, trivial⟩
            · have h2 : u 2 = _ := hR 2 (by kernel_rfl)
              clear hR k1 k0 kM
              simp only [h2]
              refine .inl ⟨by kernel_rfl, ?_⟩
              exact wp_load_add _ _ rfl (ad1.add (k * 64)) rfl XV _ (fun j v hv => hf.cellSome (CX.out j v hv) (fun x => x)) Tryd.underlying94 rfl IXV.out ⟨_, rfl, Fr.refl _ _, rfl, trivial⟩
            · clear hR k1 k0 kM
              refine .inl ⟨by kernel_rfl, ?_⟩
              go_simp
              exact ⟨_, rfl, Fr.refl _ _, rfl, trivial⟩
            · clear hR k1 k0 kM
              refine .inl ⟨by kernel_rfl, ?_⟩
              go_simp
              exact ⟨_, rfl, Fr.refl _ _, rfl, trivial⟩
            · have h4 : u 4 = _ := hR 4 (by kernel_rfl)
              have h5 : u 5 = _ := hR 5 (by kernel_rfl)
              clear hR k1 k0 kM
              simp only [h4, h5]
              refine .inl ⟨by kernel_rfl, ?_⟩
              go_simp
              exact ⟨_, rfl, Fr.refl _ _, rfl, trivial⟩
            · have h6 : u 6 = _ := hR 6 (by kernel_rfl)
              clear hR k1 k0 kM
              simp only [h6]
              refine .inl ⟨by kernel_rfl, ?_⟩
              exact wp_load_add _ _ rfl (ad2.add (k * 64)) rfl YV _ (fun j v hv => hf.cellSome (CY.out j v hv) (fun x => x)) Tryd.underlying94 rfl IYV.out ⟨_, rfl, Fr.refl _ _, rfl, trivial⟩
            · have h3 : u 3 = _ := hR 3 (by kernel_rfl)
              have h7 : u 7 = _ := hR 7 (by kernel_rfl)
              clear hR k1 k0 kM
              simp only [h3, h7]
              refine .inl ⟨by kernel_rfl, ?_⟩
              exact wp_binAgg _ _ _ _ _ rfl _ _ rfl rfl Tryd.eqGuardType94 _ (qp.out _) ⟨_, rfl, Fr.refl _ _, rfl, trivial⟩
          · intro u w' hf hR kM
            have h8 : u 8 = _ := hR 8 (by omega)
            clear hR kM
            simp only [List.take_succ_cons, List.take_zero, List.map_cons, List.map_nil, puts, Act.put, List.setIfInBounds_toArray, List.set_cons_zero, List.set_cons_succ, List.drop_succ_cons, List.drop_zero, Nat.reduceAdd, Nat.zero_add, h8]
            have FK := Lib.hid (FW.out.trans hf)
            have CX2 : Hid (∀ j v, XV[j]? = some v → w'.cell? ((ad1.add (k * 64)).add j) = some v) := fun j v hv => hf.cellSome (CX.out j v hv) (fun x => x)
            have CY2 : Hid (∀ j v, YV[j]? = some v → w'.cell? ((ad2.add (k * 64)).add j) = some v) := fun j v hv => hf.cellSome (CY.out j v hv) (fun x => x)
            clear hf FW CX CY
            generalize w' = wk at *
            go_upto_region 11 with fail
            refine wp_region_st 13 Nothing [Is (.slice (some ad1) N c1), Is (.int .i64 k), Is (.pointer (some (ad1.add (k * 64)))), Is (.agg XV.toArray), Is (.string XT), Is (.slice (some ad2) N c2), Is (.int .i64 k), Is (.pointer (some (ad2.add (k * 64)))), Is (.agg YV.toArray), Is (.string YT), Is (.string XT), Is (.string YT), Is (.bool true)] [] (fun _ => True) (fun _ _ => false) (by kernel_rfl) (by kernel_rfl) (by kernel_rfl) (by kernel_rfl) ⟨Is.stable _, Is.stable _, Is.stable _, Is.stable _, Is.stable _, Is.stable _, Is.stable _, Is.stable _, Is.stable _, Is.stable _, Is.stable _, Is.stable _, Is.stable _, trivial⟩ trivial (fun _ _ _ _ h => h) trivial ?_ ?_
            · refine ⟨fun u w' d hf hR k1 k0 kM => ?_, fun u w' d hf hR k1 k0 kM => ?_, fun u w' d hf hR k1 k0 kM => ?_, fun u w' d hf hR k1 k0 kM => ?_, fun u w' d hf hR k1 k0 kM => ?_, fun u w' d hf hR k1 k0 kM => ?_, fun u w' d hf hR k1 k0 kM => ?_, fun u w' d hf hR k1 k0 kM => ?_, fun u w' d hf hR k1 k0 kM => ?_, fun u w' d hf hR k1 k0 kM => ?_, fun u w' d hf hR k1 k0 kM => ?_, fun u w' d hf hR k1 k0 kM => ?_, fun u w' d hf hR k1 k0 kM => ?_, trivial⟩
              all_goals simp only [List.take_succ_cons, List.take_zero, List.map_cons, List.map_nil, puts, Act.put, List.setIfInBounds_toArray, List.set_cons_zero, List.set_cons_succ, Nat.reduceAdd, Nat.zero_add]
              · clear hR k1 k0 kM
                refine .inl ⟨by kernel_rfl, ?_⟩
                go_simp
                exact ⟨_, rfl, Fr.refl _ _, rfl, trivial⟩
              · clear hR k1 k0 kM
                refine .inl ⟨by kernel_rfl, ?_⟩
                go_simp
                exact ⟨_, rfl, Fr.refl _ _, rfl, trivial⟩
              · have h0 : u 0 = _ := hR 0 (by kernel_rfl)
                have h1 : u 1 = _ := hR 1 (by kernel_rfl)
                clear hR k1 k0 kM
                simp only [h0, h1]
                refine .inl ⟨by kernel_rfl, ?_⟩
                go_simp
                exact ⟨_, rfl, Fr.refl _ _, rfl, trivial⟩
              · have h2 : u 2 = _ := hR 2 (by kernel_rfl)
                clear hR k1 k0 kM
                simp only [h2]
                refine .inl ⟨by kernel_rfl, ?_⟩
                exact wp_load_add _ _ rfl (ad1.add (k * 64)) rfl XV _ (fun j v hv => hf.cellSome (CX2.out j v hv) (fun x => x)) Tryd.underlying94 rfl IXV.out ⟨_, rfl, Fr.refl _ _, rfl, trivial⟩
              · have h3 : u 3 = _ := hR 3 (by kernel_rfl)
                clear hR k1 k0 kM
                simp only [h3]
                refine .inl ⟨by kernel_rfl, ?_⟩
                go_simp
                refine (TX.out _).mono ?_
                rintro e w4 ⟨rfl, f4⟩
                exact ⟨_, rfl, f4.weak, rfl, trivial⟩
              · clear hR k1 k0 kM
                refine .inl ⟨by kernel_rfl, ?_⟩
                go_simp
                exact ⟨_, rfl, Fr.refl _ _, rfl, trivial⟩
              · clear hR k1 k0 kM
                refine .inl ⟨by kernel_rfl, ?_⟩
                go_simp
                exact ⟨_, rfl, Fr.refl _ _, rfl, trivial⟩
              · have h5 : u 5 = _ := hR 5 (by kernel_rfl)
                have h6 : u 6 = _ := hR 6 (by kernel_rfl)
                clear hR k1 k0 kM
                simp only [h5, h6]
                refine .inl ⟨by kernel_rfl, ?_⟩
                go_simp
                exact ⟨_, rfl, Fr.refl _ _, rfl, trivial⟩
              · have h7 : u 7 = _ := hR 7 (by kernel_rfl)
                clear hR k1 k0 kM
                simp only [h7]
                refine .inl ⟨by kernel_rfl, ?_⟩
                exact wp_load_add _ _ rfl (ad2.add (k * 64)) rfl YV _ (fun j v hv => hf.cellSome (CY2.out j v hv) (fun x => x)) Tryd.underlying94 rfl IYV.out ⟨_, rfl, Fr.refl _ _, rfl, trivial⟩
              · have h8 : u 8 = _ := hR 8 (by kernel_rfl)
                clear hR k1 k0 kM
                simp only [h8]
                refine .inl ⟨by kernel_rfl, ?_⟩
                go_simp
                refine (TY.out _).mono ?_
                rintro e w4 ⟨rfl, f4⟩
                exact ⟨_, rfl, f4.weak, rfl, trivial⟩
              · have h4 : u 4 = _ := hR 4 (by kernel_rfl)
                clear hR k1 k0 kM
                simp only [h4]
                refine .inl ⟨by kernel_rfl, ?_⟩
                go_simp
                exact ⟨_, rfl, Fr.refl _ _, rfl, trivial⟩
              · have h9 : u 9 = _ := hR 9 (by kernel_rfl)
                clear hR k1 k0 kM
                simp only [h9]
                refine .inl ⟨by kernel_rfl, ?_⟩
                go_simp
                exact ⟨_, rfl, Fr.refl _ _, rfl, trivial⟩
              · clear hR k1 k0 kM
                refine .inl ⟨by kernel_rfl, ?_⟩
                go_simp
                exact ⟨_, rfl, Fr.refl _ _, rfl, trivial⟩
            · intro u w' hf hR kM
              have h10 : u 10 = _ := hR 10 (by omega)
              have h11 : u 11 = _ := hR 11 (by omega)
              have h12 : u 12 = _ := hR 12 (by omega)
              clear hR kM
              simp only [List.take_succ_cons, List.take_zero, List.map_cons, List.map_nil, puts, Act.put, List.setIfInBounds_toArray, List.set_cons_zero, List.set_cons_succ, List.drop_succ_cons, List.drop_zero, Nat.reduceAdd, Nat.zero_add, h10, h11, h12]
              have FE := Lib.hid (F9.out.trans (FK.out.trans hf))
              clear hf FK CX2 CY2
              go_wp2
              go_ret3
              rw [HRE.out]
              simp only
              rw [← HXT.out, ← HYT.out]
              exact ⟨rfl, FE.out⟩
end Go.Proofs.YtkaghbpdnmigmaaDoor
