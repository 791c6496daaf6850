/- Append to an empty tree. -/
import Derived.Test.YtkaghbpdnmigmaaDoorLtJ
import Derived.Test.YtkaghbpdnmigmaaDoorGwB
namespace Go.Proofs.YtkaghbpdnmigmaaDoor
open Go.RowKit

structure NewMap (w w' : World) : Prop where
  map : w'.heap[w.heap.size]? = some (.map #[] 0)
  fr : Fr Nothing w w'
  size : w'.heap.size = w.heap.size + 1
theorem wpList_makeMap {P : Program} {ops : Array Oper} {rest : List Oper} {o : Oper} {a : Act} {w : World} {Q : Exit → Act → World → Prop} (hg : o.guard = none) (t : TypeId) (ho : o.op = .makeMap t none)
    (h : ∀ w', NewMap w w' → wpList P ops Q rest (a.put o.dst (.map (some w.heap.size))) w') : wpList P ops Q (o :: rest) a w := by
  refine wpList_plain hg fun K hK => ?_
  have mk : (Instr.makeMap t none).run P w = .ok (.map (some w.heap.size)) (w.alloc (.map #[] 0)) := by simp [Instr.makeMap]
  unfold Oper.wp execOp
  simp only [ho, Option.map_none, Sem.run_bind, mk, Sem.run_pure, Result.andThen_ok]
  exact hK _ _ (h _ ⟨heap_alloc_new w _, (Fr.refl _ _).alloc _, by simp⟩)

theorem rd_blk32 {w : World} {g : Nat} {t : TypeId} {cs : List Value} (h : Blk w g t cs.toArray) {n : Nat} (hn : cs.length = n * 32) : Rd w (fun k => k = g) 32 (some ⟨g, 0, none⟩) n cs := by
  refine ⟨hn, fun _ => ⟨_, rfl, rfl, fun j u hu => ?_⟩⟩
  rw [Addr.add_mid, Nat.zero_add, h.cell, List.getElem?_toArray]
  exact hu

set_option maxRecDepth 100000 in
set_option maxHeartbeats 1000000 in
theorem Append_first (d : List UInt8) (hd : d.length = 32) (g : Nat) (w : World) (h : Blk w g 102 #[.slice none 0 0, .map none]) :
    Calls Tryd.prog 39 #[.pointer (some ⟨g, 0, none⟩), digV d] w (fun e w' => e = .returned (.int .i64 0) ∧ Fr (fun k => k = g) w w' ∧ ∃ A c, w'.cell? ⟨g, 0, none⟩ = some (.slice A 1 c)) := by
  have HB := Lib.hid h
  clear h
  obtain ⟨i0, hi0, hz0, hz1, hz2⟩ := info_parts infoDp
  have HI : Hid ((Tryd.prog.info? 24).map (·.size) = some (digC d).length) := by rw [digC, List.length_map, hd]; exact infoD
  have HF : Hid (Instr.fill (fun i => some (i * 32, 32)) ((Array.range (1 * 32)).map (zero32.cells[· % zero32.cells.size]!)) [(0, .agg (digC d).toArray)] = some (digC d).toArray) := fill_one _ _ (by simp [digC, hd]) (by simp)
  have HL : Hid ((digC d).length = 1 * 32) := by simp [Hid, digC, hd]
  have HO : Hid (∀ u ∈ digC d, u.oneCell' = true) := by
    intro u hu
    exact oneCell_bvI d u (by simpa [digC] using hu)
  unfold digV at *
  change Calls _ _ #[_, .agg (digC d).toArray] _ _
  generalize digC d = RV at *
  have g1 : Hid (¬ 1 * i0.size > 2 ^ 24) := by simp only [Hid]; rw [hz1]; omega
  have g2 : Hid (¬ 1 * i0.size = 0) := by simp only [Hid]; rw [hz1]; omega
  have g3 : Hid (Instr.fill (fun i => some (i * i0.size, i0.size)) ((Array.range (1 * i0.size)).map (zero32.cells[· % zero32.cells.size]!)) [(0, .agg RV.toArray)] = some RV.toArray) := by simp only [Hid]; rw [hz1]; exact HF.out
  have qT : ∀ (w : World) (r : Option Nat), (binOp .eql 100 (.map r) (.map none)).run Tryd.prog w = .ok (.bool r.isNone) w := fun w r => run_eql_map_nil w _ _ _ r Tryd.underlying100
  go_enter Tryd.func39, Tryd.ntmps39
  go_wp2_with (refine wpList_boxBlk rfl 24 (.tmp 1) rfl _ rfl ?_)
  intro w1 n1
  have B1 := Lib.hid (HB.out.fr n1.fr (fun x => x))
  have c0 : w1.cell? ⟨g, 0, none⟩ = some (.slice none 0 0) := B1.out.cell 0
  have c1 : w1.cell? ⟨g, 1, none⟩ = some (.map none) := B1.out.cell 1
  have N1 := Lib.hid n1
  clear n1
  go_wp2_with (refine wpList_makeMap rfl 100 rfl ?_)
  intro w2 n2
  clear c0 c1
  have B2 := Lib.hid (B1.out.fr n2.fr (fun x => x))
  have c0 : w2.cell? ⟨g, 0, none⟩ = some (.slice none 0 0) := B2.out.cell 0
  have c1 : w2.cell? ⟨g, 1, none⟩ = some (.map none) := B2.out.cell 1
  have f1 : w2.frozen? ⟨g, 1, none⟩ = false := B2.out.frozen 1
  have N2 := Lib.hid n2
  clear n2
  go_upto_region 7 with fail
  have hgl := B2.out.lt
  have F3 : Hid (Fr (fun k => k = g) w (w2.setCell ⟨g, 1, none⟩ (.map (some w1.heap.size)))) := Fr.setCell (T := fun k => k = g) (p := ⟨g, 1, none⟩) ((N1.out.fr.trans N2.out.fr).weak) (fun _ => rfl) _
  have B3 : Hid (Blk (w2.setCell ⟨g, 1, none⟩ (.map (some w1.heap.size))) g 102 #[.slice none 0 0, .map (some w1.heap.size)]) := B2.out.set_ 1 _
  have L3 : Hid (Blk (w2.setCell ⟨g, 1, none⟩ (.map (some w1.heap.size))) w.heap.size 24 RV.toArray) := (N1.out.blk.fr N2.out.fr (fun x => x)).far (p := ⟨g, 1, none⟩) (Nat.ne_of_gt HB.out.lt) _
  clear c0 c1 f1 B2 B1 N2 hgl
  generalize w2.setCell ⟨g, 1, none⟩ (.map (some w1.heap.size)) = w3 at *
  generalize w1.heap.size = b1 at *
  have c0 : w3.cell? ⟨g, 0, none⟩ = some (.slice none 0 0) := B3.out.cell 0
  go_upto_region 8 with fail
  clear c0
  have F4 : Hid (Fr (fun k => k = g) w (w3.alloc (.cells #[.int .i64 0, .int .i64 0] 110))) := F3.out.alloc _
  have B4 := Lib.hid (B3.out.alloc (.cells #[.int .i64 0, .int .i64 0] 110))
  have L4 := Lib.hid (L3.out.alloc (.cells #[.int .i64 0, .int .i64 0] 110))
  have P4 := Lib.hid (Blk.new w3 110 #[.int .i64 0, .int .i64 0])
  have hgl := HB.out.lt
  have hne : Hid (w3.heap.size ≠ g) := by
    have := F3.out.size
    simp only [Hid]
    omega
  clear F3 B3 L3 HB N1 hgl
  generalize w3.alloc (.cells #[.int .i64 0, .int .i64 0] 110) = w4 at *
  generalize w3.heap.size = pb at *
  generalize w.heap.size = lb at *
  refine wp_region_facts 8 Nothing [Is (.pointer (some ⟨g, 0, none⟩)), Is (.pointer (some ⟨g, 0, none⟩)), Is (.pointer (some ⟨g, 0, none⟩)), Is (.pointer (some ⟨g, 0, none⟩)), Is (.slice none 0 0), Is (.agg RV.toArray), fun v w' => ∃ b, v = .slice (some ⟨b, 0, none⟩) 1 1 ∧ Blk w' b 24 RV.toArray, fun v w' => ∃ A c, v = .slice A 1 c] (by kernel_rfl) (by kernel_rfl) ⟨Is.stable _, Is.stable _, Is.stable _, Is.stable _, Is.stable _, Is.stable _, fun v w' w'' _ hf ⟨b, h, c0⟩ => ⟨b, h, c0.fr hf (fun x => x)⟩, fun v w' w'' _ _ h => h, trivial⟩ ?_ ?_
  · refine ⟨fun u w' hf hR => ?_, fun u w' hf hR => ?_, fun u w' hf hR => ?_, fun u w' hf hR => ?_, fun u w' hf hR => ?_, fun u w' hf hR => ?_, fun u w' hf hR => ?_, fun u w' hf hR => ?_, trivial⟩
    all_goals simp only [List.take_succ_cons, List.take_zero, List.map_cons, List.map_nil, puts, Act.put, List.setIfInBounds_toArray, List.set_cons_zero, List.set_cons_succ, Nat.reduceAdd, Nat.zero_add]
    · clear hR; go_simp; exact ⟨_, rfl, Fr.refl _ _, rfl⟩
    · clear hR; go_simp; exact ⟨_, rfl, Fr.refl _ _, rfl⟩
    · have h1 : u 1 = _ := hR 1 (by kernel_rfl)
      clear hR
      simp only [h1]
      go_simp; exact ⟨_, rfl, Fr.refl _ _, rfl⟩
    · have h2 : u 2 = _ := hR 2 (by kernel_rfl)
      clear hR
      simp only [h2]
      go_simp; exact ⟨_, rfl, Fr.refl _ _, rfl⟩
    · have h3 : u 3 = _ := hR 3 (by kernel_rfl)
      clear hR
      simp only [h3]
      have c0 : w'.cell? ⟨g, 0, none⟩ = some (.slice none 0 0) := (B4.out.fr hf (fun x => x)).cell 0
      go_simp; exact ⟨_, rfl, Fr.refl _ _, rfl⟩
    · exact wp_load_mid _ _ rfl lb 0 rfl RV _ (range_blk (L4.out.fr hf (fun x => x))) Tryd.underlying24 rfl HI.out ⟨_, rfl, Fr.refl _ _, rfl⟩
    · have h5 : u 5 = _ := hR 5 (by kernel_rfl)
      clear hR
      simp only [h5]
      refine wp_buildSlice 29 24 1 #[(0, .tmp 38)] rfl RV.toArray i0 zero32 Tryd.underlying29 hi0 hz0 g1.out g2.out ?_ ?_
      · simp only [List.map_toArray, List.map_cons, List.map_nil]
        exact g3.out
      · exact ⟨_, rfl, (Fr.refl _ _).alloc _, w'.heap.size, rfl, Blk.new _ _ _⟩
    · have h4 : u 4 = _ := hR 4 (by kernel_rfl)
      obtain ⟨b, h6, hb⟩ := hR 6 (by kernel_rfl)
      clear hR
      simp only [h4, h6]
      refine wp_app w' (.tmp 37) (.tmp 39) 29 rfl 24 i0 zero32 32 32 Tryd.underlying29 hi0 hz0 hz1 hz2 rfl (by omega) (.slice none 0 0) 0 [] rfl ⟨rfl, .inl ⟨rfl, rfl⟩⟩ (fun k => k = b) (some ⟨b, 0, none⟩) 1 1 RV rfl (rd_blk32 hb HL.out) HO.out (by omega) (by omega) ?_
      intro v' w'' hG
      obtain ⟨A1, m, c1, rfl, H1, H2⟩ := own_slice hG.own
      have hm := H1.out
      subst hm
      exact ⟨_, rfl, hG.fr0, A1, c1, rfl⟩
  · intro u w' hf hR
    have h0 : u 0 = _ := hR 0 (by omega)
    obtain ⟨A, c, h7⟩ := hR 7 (by omega)
    clear hR
    simp only [List.take_succ_cons, List.take_zero, List.map_cons, List.map_nil, puts, Act.put, List.setIfInBounds_toArray, List.set_cons_zero, List.set_cons_succ, List.drop_succ_cons, List.drop_zero, Nat.reduceAdd, Nat.zero_add, h0, h7]
    have B5 := Lib.hid (B4.out.fr hf (fun x => x))
    have P5 := Lib.hid (P4.out.fr hf (fun x => x))
    have F5 := Lib.hid (F4.out.trans hf.weak)
    have c0 : w'.cell? ⟨g, 0, none⟩ = some (.slice none 0 0) := B5.out.cell 0
    have f0 : w'.frozen? ⟨g, 0, none⟩ = false := B5.out.frozen 0
    clear hf
    go_wp2
    have B6 : Hid (Blk (w'.setCell ⟨g, 0, none⟩ (.slice A 1 c)) g 102 #[.slice A 1 c, .map (some b1)]) := B5.out.set_ 0 _
    have P6 : Hid (Blk (w'.setCell ⟨g, 0, none⟩ (.slice A 1 c)) pb 110 #[.int .i64 0, .int .i64 0]) := P5.out.far (p := ⟨g, 0, none⟩) hne.out _
    have F6 : Hid (Fr (fun k => k = g) w (w'.setCell ⟨g, 0, none⟩ (.slice A 1 c))) := F5.out.setCell (p := ⟨g, 0, none⟩) (fun _ => rfl) _
    clear c0 f0 B5 P5 F5 B4 P4 F4 L4
    generalize w'.setCell ⟨g, 0, none⟩ (.slice A 1 c) = w5 at *
    go_loopw [] (fun wr => wr = w5) (fun _ => 0)
    case atStart => rfl
    case round =>
      obtain rfl := hrel
      have c1 : wr.cell? ⟨pb, 1, none⟩ = some (.int .i64 0) := P6.out.cell 1
      go_wp2
      go_ret
      exact ⟨rfl, F6.out, A, c, B6.out.cell 0⟩
end Go.Proofs.YtkaghbpdnmigmaaDoor
