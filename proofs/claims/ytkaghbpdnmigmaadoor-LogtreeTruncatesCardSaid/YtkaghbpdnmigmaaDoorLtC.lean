/- The reference of logtree: Leaf, Empty, text, Pair, Node. -/
import Derived.Test.YtkaghbpdnmigmaaDoorLtB
import Derived.Test.YtkaghbpdnmigmaaDoorGwB
namespace Go.Proofs.YtkaghbpdnmigmaaDoor
open Go.RowKit

set_option maxRecDepth 100000 in
set_option maxHeartbeats 1000000 in
theorem rLeaf_any (s : ByteArray) (w : World) (hs : s.size < 4294967296) : Calls Tryd.prog 16 #[.string s] w (Same' w (digV (leafD (txL s)))) := by
  have CT : Hid (∀ w' : World, Calls Tryd.prog 46 #[.int .u8 0, .slice (some ⟨w'.heap.size, 0, none⟩) 1 1] (w'.alloc (.cells #[.string s] 9)) (Same' (w'.alloc (.cells #[.string s] 9)) (digV (leafD (txL s))))) :=
    fun w' => refTagged_any 0 [s] (some ⟨w'.heap.size, 0, none⟩) 1 1 _ _ (rd_newL w' [.string s] 1 rfl 9) (by omega) (JoinK_le1 0 s hs) (by simpa using hs)
  have HD := Lib.hid (Dig.of (leafD_length (txL s)))
  unfold digV at *
  generalize ((leafD (txL s)).map bvI).toArray = RA at *
  go_enter Tryd.func16, Tryd.ntmps16
  go_wp2_with (refine wpList_allocBlk rfl 23 rfl zero32 zv32 zero32c rfl ?_)
  intro w1 n1
  have N1 := Lib.hid n1
  clear n1
  go_wp2_with fail
  refine (CT.out _).mono ?_
  rintro e w2 ⟨rfl, f2⟩
  have F2 : Hid (Fr Nothing w1 w2) := ((Fr.refl _ w1).alloc _).trans f2
  have R2 := Lib.hid (N1.out.blk.fr F2.out (fun x => x))
  have F3 := Lib.hid (N1.out.fr.trans F2.out)
  clear f2 CT N1 F2
  go_wp2_with (refine wpList_storeBlk rfl 23 (.tmp 2) _ rfl w.heap.size RA rfl rfl _ _ R2.out HD.out.infoR HD.out.zero HD.out.one ?_)
  intro wz b5 f5
  have J4 := Lib.hid b5
  have JF : Hid (Fr Nothing w wz) := F3.out.then_ f5 (fun i hi e => by have e' : i = w.heap.size := e; omega)
  clear b5 f5
  go_wp2
  exact bodyPost_ret (results_cell_row (fn := Tryd.f16) (p := 2) (ty := 23) Tryd.results16 _ wz _ 23 RA (0, 0) _ rfl J4.out Tryd.underlying23 rfl HD.out.infoR) rfl ⟨rfl, JF.out⟩

set_option maxRecDepth 100000 in
set_option maxHeartbeats 1000000 in
theorem rEmpty_any (w : World) : Calls Tryd.prog 20 #[] w (Same' w (digV emptyD)) := by
  have CT : Hid (∀ w' : World, Calls Tryd.prog 46 #[.int .u8 2, .slice none 0 0] w' (Same' w' (digV emptyD))) :=
    fun w' => refTagged_any 2 [] none 0 0 (fun _ => False) _ Rd.none_ (by omega) (JoinK_le0 2) (by simp)
  have HD := Lib.hid (Dig.of emptyD_length)
  unfold digV at *
  generalize (emptyD.map bvI).toArray = RA at *
  go_enter Tryd.func20, Tryd.ntmps20
  go_wp2_with (refine wpList_allocBlk rfl 23 rfl zero32 zv32 zero32c rfl ?_)
  intro w1 n1
  have N1 := Lib.hid n1
  clear n1
  go_wp2_with fail
  refine (CT.out _).mono ?_
  rintro e w2 ⟨rfl, f2⟩
  have F2 : Hid (Fr Nothing w1 w2) := f2
  have R2 := Lib.hid (N1.out.blk.fr F2.out (fun x => x))
  have F3 := Lib.hid (N1.out.fr.trans F2.out)
  clear f2 CT N1 F2
  go_wp2_with (refine wpList_storeBlk rfl 23 (.tmp 0) _ rfl w.heap.size RA rfl rfl _ _ R2.out HD.out.infoR HD.out.zero HD.out.one ?_)
  intro wz b5 f5
  have J4 := Lib.hid b5
  have JF : Hid (Fr Nothing w wz) := F3.out.then_ f5 (fun i hi e => by have e' : i = w.heap.size := e; omega)
  clear b5 f5
  go_wp2
  exact bodyPost_ret (results_cell_row (fn := Tryd.f20) (p := 0) (ty := 23) Tryd.results20 _ wz _ 23 RA (0, 0) _ rfl J4.out Tryd.underlying23 rfl HD.out.infoR) rfl ⟨rfl, JF.out⟩

set_option maxRecDepth 100000 in
set_option maxHeartbeats 1000000 in
theorem rtext_any (l : List UInt8) (hl : l.length = 32) (w : World) : Calls Tryd.prog 74 #[digV l] w (Same' w (.string ⟨l.toArray⟩)) := by
  have HL := Lib.hid hl
  unfold digV
  clear hl
  go_enter Tryd.func74, Tryd.ntmps74
  go_wp2_with (refine wpList_boxBlk rfl 23 (.tmp 0) rfl _ rfl ?_)
  intro w1 n1
  have N1 := Lib.hid n1
  have c1 := run_str (P := Tryd.prog) w1 79 9 5 Tryd.underlying79 Tryd.underlying5 Tryd.underlying9 _ _ 32 32 l (rd_blk n1.blk (by rw [List.length_map, HL.out]))
  clear n1
  go_wp2
  go_ret
  exact ⟨rfl, N1.out.fr⟩

structure PairS (w w' : World) (g0 g1 : Nat) (LV RV : List Value) : Prop where
  fr : Fr Nothing w w'
  b0 : Blk w' g0 23 LV.toArray
  b1 : Blk w' g1 23 RV.toArray
theorem PairS.drew {w w' : World} {g0 g1 : Nat} {l r : List Value} (h : PairS w w' g0 g1 l r) : PairS w w'.drew g0 g1 l r := ⟨h.fr.drew, h.b0.drew, h.b1.drew⟩
theorem PairS.later {w w' w'' : World} {g0 g1 : Nat} {l r : List Value} (h : PairS w w' g0 g1 l r) (hf : Fr Nothing w' w'') : PairS w w'' g0 g1 l r := ⟨h.fr.trans hf, h.b0.fr hf (fun x => x), h.b1.fr hf (fun x => x)⟩
theorem PairS.alloc {w w' : World} {g0 g1 : Nat} {l r : List Value} (h : PairS w w' g0 g1 l r) (o : Obj) : PairS w (w'.alloc o) g0 g1 l r := h.later ((Fr.refl _ _).alloc o)
theorem range_blk {w : World} {g : Nat} {t : TypeId} {cs : List Value} (h : Blk w g t cs.toArray) : w.rangeAt g 0 cs := fun j v hv => by
  rw [Nat.zero_add, h.cell, List.getElem?_toArray]
  exact hv
theorem PairS.all {w w' : World} {g0 g1 : Nat} {l r : List Value} (h : PairS w w' g0 g1 l r) : PairS w w' g0 g1 l r ∧ w'.rangeAt g0 0 l ∧ w'.rangeAt g1 0 r := ⟨h, range_blk h.b0, range_blk h.b1⟩

set_option maxRecDepth 100000 in
set_option maxHeartbeats 4000000 in
theorem rPair_any (l r : List UInt8) (hl : l.length = 32) (hr : r.length = 32) (w : World) : Calls Tryd.prog 47 #[digV l, digV r] w (Same' w (.string ⟨(joinL 1 [l, r]).toArray⟩)) := by
  have el : txL ⟨l.toArray⟩ = l := by simp [txL]
  have er : txL ⟨r.toArray⟩ = r := by simp [txL]
  have CT : Hid (∀ (W : World) (b : Nat), W.cell? ⟨b, 0, none⟩ = some (.string ⟨l.toArray⟩) → W.cell? ⟨b, 1, none⟩ = some (.string ⟨r.toArray⟩) → Calls Tryd.prog 73 #[.int .u8 1, .slice (some ⟨b, 0, none⟩) 2 2] W (Joined W ⟨(joinL 1 [l, r]).toArray⟩)) := by
    intro W b h0 h1
    have h := refJoin_any 1 [⟨l.toArray⟩, ⟨r.toArray⟩] (some ⟨b, 0, none⟩) 2 2 _ W (rd_two h0 h1) (by omega) (JoinK_le2 1 _ _ (by rw [ByteArray.size, List.size_toArray, hl]; omega) (by rw [ByteArray.size, List.size_toArray, hr]; omega)) (by
      intro p hp
      simp only [List.mem_cons, List.not_mem_nil, or_false] at hp
      rcases hp with rfl | rfl <;> simp only [ByteArray.size, List.size_toArray, hl, hr] <;> omega)
    simp only [List.map_cons, List.map_nil, el, er] at h
    exact h
  have CL := Lib.hid (rtext_any l hl)
  have CR := Lib.hid (rtext_any r hr)
  have il : (Tryd.prog.info? 23).map (·.size) = some (l.map bvI).length := by rw [List.length_map, hl]; exact info32
  have ir : (Tryd.prog.info? 23).map (·.size) = some (r.map bvI).length := by rw [List.length_map, hr]; exact info32
  have ty := Tryd.underlying23
  unfold digV at *
  generalize l.map bvI = LV at *
  generalize r.map bvI = RV at *
  generalize (⟨l.toArray⟩ : ByteArray) = LS at *
  generalize (⟨r.toArray⟩ : ByteArray) = RS at *
  generalize (⟨(joinL 1 [l, r]).toArray⟩ : ByteArray) = JS at *
  clear hl hr el er
  go_enter Tryd.func47, Tryd.ntmps47
  go_wp2_with (refine wpList_boxBlk rfl 23 (.tmp 0) rfl _ rfl ?_)
  intro w1 n1
  have N1 := Lib.hid n1
  clear n1
  go_wp2_with (refine wpList_boxBlk rfl 23 (.tmp 1) rfl _ rfl ?_)
  intro w2 n2
  have PS : PairS w w2 w.heap.size w1.heap.size LV RV := ⟨N1.out.fr.trans n2.fr, N1.out.blk.fr n2.fr (fun x => x), n2.blk⟩
  clear n2 N1
  generalize w.heap.size = g0 at *
  generalize w1.heap.size = g1 at *
  go_upto_region 1 with fail
  refine wp_region_facts 11 Nothing [Is (.agg LV.toArray), Is (.string LS), Is (.agg RV.toArray), Is (.string RS), fun v w' => ∃ b, v = .slice (some ⟨b, 0, none⟩) 2 2 ∧ w'.cell? ⟨b, 0, none⟩ = some (.string LS) ∧ w'.cell? ⟨b, 1, none⟩ = some (.string RS), Is (.tuple #[.string JS, .int .i64 0]), Is (.tuple #[.string JS, .int .i64 0]), Is (.string JS), Is (.int .i64 0), Is (.string JS), Is (.int .i64 0)] (by kernel_rfl) (by kernel_rfl) ⟨Is.stable _, Is.stable _, Is.stable _, Is.stable _, fun v w' w'' _ hf ⟨b, h, c0, c1⟩ => ⟨b, h, hf.cellSome c0 (fun x => x), hf.cellSome c1 (fun x => x)⟩, Is.stable _, Is.stable _, Is.stable _, Is.stable _, Is.stable _, Is.stable _, trivial⟩ ?_ ?_
  · refine ⟨fun u w' hf hR => ?_, fun u w' hf hR => ?_, fun u w' hf hR => ?_, fun u w' hf hR => ?_, fun u w' hf hR => ?_, fun u w' hf hR => ?_, fun u w' hf hR => ?_, fun u w' hf hR => ?_, fun u w' hf hR => ?_, fun u w' hf hR => ?_, fun u w' hf hR => ?_, trivial⟩
    all_goals simp only [List.take_succ_cons, List.take_zero, List.map_cons, List.map_nil, puts, Act.put, List.setIfInBounds_toArray, List.set_cons_zero, List.set_cons_succ, Nat.reduceAdd, Nat.zero_add]
    · exact wp_load_mid _ _ rfl g0 0 rfl LV _ (range_blk (PS.b0.fr hf (fun x => x))) ty rfl il ⟨_, rfl, Fr.refl _ _, rfl⟩
    · have h0 : u 0 = .agg LV.toArray := hR 0 (by kernel_rfl)
      clear hR
      simp only [h0]
      go_simp
      refine (CL.out _).mono ?_
      rintro e w4 ⟨rfl, f4⟩
      exact ⟨_, rfl, f4, rfl⟩
    · exact wp_load_mid _ _ rfl g1 0 rfl RV _ (range_blk (PS.b1.fr hf (fun x => x))) ty rfl ir ⟨_, rfl, Fr.refl _ _, rfl⟩
    · have h2 : u 2 = .agg RV.toArray := hR 2 (by kernel_rfl)
      clear hR
      simp only [h2]
      go_simp
      refine (CR.out _).mono ?_
      rintro e w4 ⟨rfl, f4⟩
      exact ⟨_, rfl, f4, rfl⟩
    · have h1 : u 1 = .string LS := hR 1 (by kernel_rfl)
      have h3 : u 3 = .string RS := hR 3 (by kernel_rfl)
      clear hR
      simp only [h1, h3]
      go_simp
      exact ⟨_, rfl, (Fr.refl _ _).alloc _, w'.heap.size, rfl, by simp, by simp⟩
    · obtain ⟨b, h4, c0, c1⟩ := hR 4 (by kernel_rfl)
      clear hR
      simp only [h4]
      go_simp
      refine (CT.out _ _ c0 c1).mono ?_
      rintro e w4 ⟨rfl, f4⟩
      exact ⟨_, rfl, f4, rfl⟩
    · have h5 : u 5 = .tuple #[.string JS, .int .i64 0] := hR 5 (by kernel_rfl)
      clear hR
      simp only [h5]
      go_simp
      exact ⟨_, rfl, Fr.refl _ _, rfl⟩
    · have h6 : u 6 = .tuple #[.string JS, .int .i64 0] := hR 6 (by kernel_rfl)
      clear hR
      simp only [h6]
      go_simp
      exact ⟨_, rfl, Fr.refl _ _, rfl⟩
    · have h6 : u 6 = .tuple #[.string JS, .int .i64 0] := hR 6 (by kernel_rfl)
      clear hR
      simp only [h6]
      go_simp
      exact ⟨_, rfl, Fr.refl _ _, rfl⟩
    · have h7 : u 7 = .string JS := hR 7 (by kernel_rfl)
      clear hR
      simp only [h7]
      go_simp
      exact ⟨_, rfl, Fr.refl _ _, rfl⟩
    · have h8 : u 8 = .int .i64 0 := hR 8 (by kernel_rfl)
      clear hR
      simp only [h8]
      go_simp
      exact ⟨_, rfl, Fr.refl _ _, rfl⟩
  · intro u w' hf hR
    have h9 : u 9 = .string JS := hR 9 (by omega)
    clear hR
    simp only [List.take_succ_cons, List.take_zero, List.map_cons, List.map_nil, puts, Act.put, List.setIfInBounds_toArray, List.set_cons_zero, List.set_cons_succ, List.drop_succ_cons, List.drop_zero, Nat.reduceAdd, Nat.zero_add, h9]
    go_wp2
    go_ret
    exact ⟨rfl, PS.fr.trans hf⟩

set_option maxRecDepth 100000 in
set_option maxHeartbeats 1000000 in
theorem rNode_any (l r : List UInt8) (hl : l.length = 32) (hr : r.length = 32) (w : World) : Calls Tryd.prog 18 #[digV l, digV r] w (Same' w (digV (nodeD l r))) := by
  have CP := Lib.hid (rPair_any l r hl hr)
  have CS := Lib.hid (fun w' => refSum_any ⟨(joinL 1 [l, r]).toArray⟩ w' (by
    rw [ByteArray.size, List.size_toArray]
    have hw : ∀ n, (wBytes n).length = 4 := fun _ => rfl
    simp [joinL, hl, hr, hw]))
  have et : txL ⟨(joinL 1 [l, r]).toArray⟩ = joinL 1 [l, r] := by simp [txL]
  have CS2 : Hid (∀ w', Calls Tryd.prog 27 #[.string ⟨(joinL 1 [l, r]).toArray⟩] w' (Same' w' (digV (nodeD l r)))) := by
    intro w'
    have h := CS.out w'
    rw [et] at h
    exact h
  have HD := Lib.hid (Dig.of (nodeD_length l r))
  have DL := Lib.hid (Dig.of hl)
  have DR := Lib.hid (Dig.of hr)
  clear CS et
  unfold digV at *
  generalize ((nodeD l r).map bvI).toArray = RA at *
  generalize (l.map bvI).toArray = LA at *
  generalize (r.map bvI).toArray = RR at *
  generalize (⟨(joinL 1 [l, r]).toArray⟩ : ByteArray) = JS at *
  clear hl hr
  go_enter Tryd.func18, Tryd.ntmps18
  go_wp2_with (refine wpList_boxBlk rfl 23 (.tmp 0) rfl _ rfl ?_)
  intro w1 n1
  have N1 := Lib.hid n1
  clear n1
  go_wp2_with (refine wpList_boxBlk rfl 23 (.tmp 1) rfl _ rfl ?_)
  intro w2 n2
  have N2 := Lib.hid n2
  clear n2
  go_wp2_with (refine wpList_allocBlk rfl 23 rfl zero32 zv32 zero32c rfl ?_)
  intro w3 n3
  have N3 := Lib.hid n3
  have B0 := Lib.hid ((N1.out.blk.fr N2.out.fr (fun x => x)).fr n3.fr (fun x => x))
  have B1 := Lib.hid (N2.out.blk.fr n3.fr (fun x => x))
  have F3 : Hid (Fr Nothing w w3) := N1.out.fr.trans (N2.out.fr.trans n3.fr)
  have HZ : Hid (w.heap.size ≤ w2.heap.size) := (N1.out.fr.trans N2.out.fr).size
  clear n3 N1 N2
  generalize hg0 : w.heap.size = g0 at *
  have HG0 := Lib.hid hg0
  clear hg0
  generalize w1.heap.size = g1 at *
  generalize hg2 : w2.heap.size = g2 at *
  have HG2 := Lib.hid hg2
  clear hg2
  go_wp2_with (first | (refine wpList_load_row rfl 23 (.tmp 2) rfl g0 rfl _ LA _ _ B0.out Tryd.underlying23 rfl DL.out.infoR ?_) | (refine wpList_load_row rfl 23 (.tmp 3) rfl g1 rfl _ RR _ _ B1.out Tryd.underlying23 rfl DR.out.infoR ?_) | fail)
  refine (CP.out _).mono ?_
  rintro e w4 ⟨rfl, f4⟩
  have F4 := Lib.hid f4
  clear f4 CP
  go_wp2_with fail
  refine (CS2.out _).mono ?_
  rintro e w5 ⟨rfl, f5⟩
  have R5 : Hid (Blk w5 g2 23 zero32c) := by
    have h := N3.out.blk.fr (F4.out.trans f5) (fun x => x)
    rw [HG2.out] at h
    exact h
  have F5 : Hid (Fr Nothing w w5) := F3.out.trans (F4.out.trans f5)
  clear f5 F4 F3 N3 CS2
  go_wp2_with (refine wpList_storeBlk rfl 23 (.tmp 4) _ rfl g2 RA rfl rfl _ _ R5.out HD.out.infoR HD.out.zero HD.out.one ?_)
  intro wz b6 f6
  have J4 := Lib.hid b6
  have JF : Hid (Fr Nothing w wz) := F5.out.then_ f6 (fun i hi e => by have e' : i = g2 := e; have := HZ.out; have := HG0.out; omega)
  clear b6 f6
  go_wp2
  exact bodyPost_ret (results_cell_row (fn := Tryd.f18) (p := 4) (ty := 23) Tryd.results18 _ wz _ 23 RA (0, 0) _ rfl J4.out Tryd.underlying23 rfl HD.out.infoR) rfl ⟨rfl, JF.out⟩
end Go.Proofs.YtkaghbpdnmigmaaDoor
