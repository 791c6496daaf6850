/- logtree: Node; equality of digests; the reference's Leaf, Empty, text, Pair, Node. -/
import Derived.Test.YtkaghbpdnmigmaaDoorLtA
import Derived.ChangeKeysEq
import Derived.Deep.RegionHeld3
namespace Go.Proofs.YtkaghbpdnmigmaaDoor
open Go.RowKit

/-! ### '==' between digests -/
theorem run_items (w : World) (d : Nat) (l r : List UInt8) (hl : l.length = 32) (hr : r.length = 32) : ∀ is : List Nat, (∀ i ∈ is, i < 32) →
    (Op.eqItems (d + 1) 5 1 (l.map bvI).toArray (r.map bvI).toArray is).run Tryd.prog w = .ok (is.all fun i => l[i]? == r[i]?) w
  | [], _ => by simp [Op.eqItems]
  | i :: is, h => by
    have hi : i < 32 := h i (by simp)
    have ha : (isAgg 5).run Tryd.prog w = .ok false w := by kernel_rfl
    have p : ∀ x : List UInt8, x.length = 32 → (part 5 (x.map bvI).toArray (i * 1)).run Tryd.prog w = .ok (bvI (x[i]?.getD 0)) w := by
      intro x hx
      unfold part
      rw [Sem.run_bind, ha]
      simp only [Result.andThen_ok, Bool.false_eq_true, if_false, Nat.mul_one, List.getElem?_toArray, List.getElem?_map, List.getElem?_eq_getElem (show i < x.length by omega), Option.map_some, Sem.run_pure, Option.getD_some]
    have ih := run_items w d l r hl hr is (fun j hj => h j (by simp [hj]))
    have e : ((((l[i]?.getD 0).toNat : Nat) : Int) == (((r[i]?.getD 0).toNat : Nat) : Int)) = (l[i]? == r[i]?) := by
      rw [List.getElem?_eq_getElem (show i < l.length by omega), List.getElem?_eq_getElem (show i < r.length by omega), Bool.eq_iff_iff]
      simp [← UInt8.toNat_inj]
      omega
    have q : (Op.equalIn (d + 1) 5 (bvI (l[i]?.getD 0)) (bvI (r[i]?.getD 0))).run Tryd.prog w = .ok (l[i]? == r[i]?) w := by
      rw [← e]
      exact run_equalIn_int w d 5 .u8 .u8 _ _ Tryd.underlying5
    simp only [Op.eqItems, Sem.run_bind, p l hl, p r hr, q, Result.andThen_ok, List.all_cons]
    cases hq : (l[i]? == r[i]?)
    · simp
    · simpa using ih
theorem all_same (l r : List UInt8) (hl : l.length = 32) (hr : r.length = 32) : ((List.range 32).all fun i => l[i]? == r[i]?) = decide (l = r) := by
  rw [Bool.eq_iff_iff]
  simp only [List.all_eq_true, List.mem_range, beq_iff_eq, decide_eq_true_eq]
  constructor
  · intro h
    apply List.ext_getElem?
    intro i
    rcases Nat.lt_or_ge i 32 with hi | hi
    · exact h i hi
    · rw [List.getElem?_eq_none (by omega), List.getElem?_eq_none (by omega)]
  · rintro rfl _ _
    rfl
theorem infoU8 : (Tryd.prog.info? 5).isSome = true := by kernel_rfl
theorem cellsU8 : Tryd.prog.cellsOf 5 = 1 := by kernel_rfl
theorem run_equal_row (w : World) (t : TypeId) (hu : Tryd.prog.underlying t = some (.array 32 5)) (l r : List UInt8) (hl : l.length = 32) (hr : r.length = 32) :
    (Op.equalIn 10000 t (digV l) (digV r)).run Tryd.prog w = .ok (decide (l = r)) w := by
  obtain ⟨i, hi⟩ := Option.isSome_iff_exists.1 infoU8
  unfold digV
  rw [run_equalIn_array w 9999 _ _ hu hi, cellsU8, run_items w 9998 l r hl hr _ (fun i hi => List.mem_range.1 hi), all_same l r hl hr]
theorem run_eqD (w : World) (t : TypeId) (hu : Tryd.prog.underlying t = some (.array 32 5)) (l r : List UInt8) (hl : l.length = 32) (hr : r.length = 32) :
    (binOp .eql t (digV l) (digV r)).run Tryd.prog w = .ok (.bool (decide (l = r))) w := by
  have := run_equal_row w t hu l r hl hr
  unfold digV at *
  rw [run_eql_struct, this]
  rfl
theorem run_neD (w : World) (t : TypeId) (hu : Tryd.prog.underlying t = some (.array 32 5)) (l r : List UInt8) (hl : l.length = 32) (hr : r.length = 32) :
    (binOp .neq t (digV l) (digV r)).run Tryd.prog w = .ok (.bool (!decide (l = r))) w := by
  have := run_equal_row w t hu l r hl hr
  unfold digV at *
  rw [run_neq_struct, this]
  rfl

structure NodeS (w w' : World) (g0 g1 g2 : Nat) (l r : List UInt8) : Prop where
  fr : Fr Nothing w w'
  b0 : Blk w' g0 24 (l.map bvI).toArray
  b1 : Blk w' g1 24 (r.map bvI).toArray
  b2 : Blk w' g2 24 zero32c
theorem NodeS.drew {w w' : World} {g0 g1 g2 : Nat} {l r : List UInt8} (h : NodeS w w' g0 g1 g2 l r) : NodeS w w'.drew g0 g1 g2 l r := ⟨h.fr.drew, h.b0.drew, h.b1.drew, h.b2.drew⟩
theorem NodeS.later {w w' w'' : World} {g0 g1 g2 : Nat} {l r : List UInt8} (h : NodeS w w' g0 g1 g2 l r) (hf : Fr Nothing w' w'') : NodeS w w'' g0 g1 g2 l r := ⟨h.fr.trans hf, h.b0.fr hf (fun x => x), h.b1.fr hf (fun x => x), h.b2.fr hf (fun x => x)⟩
theorem NodeS.alloc {w w' : World} {g0 g1 g2 : Nat} {l r : List UInt8} (h : NodeS w w' g0 g1 g2 l r) (o : Obj) : NodeS w (w'.alloc o) g0 g1 g2 l r := h.later ((Fr.refl _ _).alloc o)
theorem NodeS.store {w w' : World} {g0 g1 g2 g : Nat} {l r : List UInt8} (h : NodeS w w' g0 g1 g2 l r) (hg : w.heap.size ≤ g ∧ g0 < g ∧ g1 < g ∧ g2 < g) (vs : List Value) : NodeS w (w'.setCells g 0 vs) g0 g1 g2 l r := by
  have hf : Fr (fun k => k = g) w' (w'.setCells g 0 vs) := Fr.setCells (T := fun k => k = g) (fun _ => rfl) _ _ _ (Fr.refl _ _)
  exact ⟨h.fr.then_ hf (fun i hi e => by have e' : i = g := e; omega), h.b0.fr hf (fun e => by have e' : g0 = g := e; omega), h.b1.fr hf (fun e => by have e' : g1 = g := e; omega), h.b2.fr hf (fun e => by have e' : g2 = g := e; omega)⟩
theorem NodeS.all {w w' : World} {g0 g1 g2 : Nat} {l r : List UInt8} (h : NodeS w w' g0 g1 g2 l r) (hl : l.length = 32) (hr : r.length = 32) : NodeS w w' g0 g1 g2 l r ∧
    (convert 79 9 (.slice (some ⟨g0, 0, none⟩) 32 32)).run Tryd.prog w' = .ok (.string ⟨l.toArray⟩) w' ∧ (convert 79 9 (.slice (some ⟨g1, 0, none⟩) 32 32)).run Tryd.prog w' = .ok (.string ⟨r.toArray⟩) w' :=
  ⟨h, run_str (P := Tryd.prog) w' 79 9 5 Tryd.underlying79 Tryd.underlying5 Tryd.underlying9 _ _ 32 32 l (rd_blk h.b0 (by rw [List.length_map, hl])),
    run_str (P := Tryd.prog) w' 79 9 5 Tryd.underlying79 Tryd.underlying5 Tryd.underlying9 _ _ 32 32 r (rd_blk h.b1 (by rw [List.length_map, hr]))⟩
theorem there_fr {w w' : World} {g n : Nat} (h : w.there g 0 n) (hf : Fr Nothing w w') : w'.there g 0 n := fun j hj => by
  obtain ⟨h1, h2⟩ := h j hj
  obtain ⟨u, hu⟩ := Option.isSome_iff_exists.1 h1
  have hb := World.block_lt_of_cell? w _ hu
  exact ⟨by rw [hf.cellSome hu (fun x => x)]; rfl, by rw [hf.frozen hb (fun x => x)]; exact h2⟩
theorem rd_two {w : World} {b : Nat} {s t : Value} (h0 : w.cell? ⟨b, 0, none⟩ = some s) (h1 : w.cell? ⟨b, 1, none⟩ = some t) : Rd w (fun k => k = b) 1 (some ⟨b, 0, none⟩) 2 [s, t] := by
  refine ⟨rfl, fun _ => ⟨_, rfl, rfl, fun j u hu => ?_⟩⟩
  rw [Addr.add_mid, Nat.zero_add]
  rcases j with _ | _ | j
  · cases hu; exact h0
  · cases hu; exact h1
  · cases hu

set_option maxRecDepth 100000 in
set_option maxHeartbeats 4000000 in
theorem Node_any (l r : List UInt8) (hl : l.length = 32) (hr : r.length = 32) (w : World) (hT : ShaTab w) : Calls Tryd.prog 17 #[digV l, digV r] w (Same' w (digV (nodeD l r))) := by
  have el : txL ⟨l.toArray⟩ = l := by simp [txL]
  have er : txL ⟨r.toArray⟩ = r := by simp [txL]
  have CT : Hid (∀ (W : World) (b : Nat), ShaTab W → W.cell? ⟨b, 0, none⟩ = some (.string ⟨l.toArray⟩) → W.cell? ⟨b, 1, none⟩ = some (.string ⟨r.toArray⟩) → Calls Tryd.prog 44 #[.int .u8 1, .slice (some ⟨b, 0, none⟩) 2 2] W (Same' W (.tuple #[digV (nodeD l r), .int .i64 0]))) := by
    intro W b ht h0 h1
    have h := Tagged_any 1 [⟨l.toArray⟩, ⟨r.toArray⟩] (some ⟨b, 0, none⟩) 2 2 _ W ht (rd_two h0 h1) (by omega) (JoinK_le2 1 _ _ (by rw [ByteArray.size, List.size_toArray, hl]; omega) (by rw [ByteArray.size, List.size_toArray, hr]; omega)) (by
      intro p hp
      simp only [List.mem_cons, List.not_mem_nil, or_false] at hp
      rcases hp with rfl | rfl <;> simp only [ByteArray.size, List.size_toArray, hl, hr] <;> omega)
    simp only [List.map_cons, List.map_nil, el, er] at h
    exact h
  have HT := Lib.hid hT
  have HD := Lib.hid (Dig.of (nodeD_length l r))
  have HL := Lib.hid hl
  have HR := Lib.hid hr
  have hlen : ((nodeD l r).map bvI).length = 32 := by rw [List.length_map, nodeD_length]
  have hone : ∀ v ∈ (nodeD l r).map bvI, v.oneCell' = true := oneCell_bvI _
  unfold digV at *
  generalize (nodeD l r).map bvI = RV at *
  have i24 : (Tryd.prog.info? 24).map (·.size) = some RV.length := by rw [hlen]; exact infoD
  clear hT hl hr el er
  go_enter Tryd.func17, Tryd.ntmps17
  go_wp2_with (refine wpList_boxBlk rfl 24 (.tmp 0) rfl _ rfl ?_)
  intro w1 n1
  have N1 := Lib.hid n1
  clear n1
  go_wp2_with (refine wpList_boxBlk rfl 24 (.tmp 1) rfl _ rfl ?_)
  intro w2 n2
  have N2 := Lib.hid n2
  clear n2
  go_wp2_with (refine wpList_allocBlk rfl 24 rfl zero32 zvD zero32c rfl ?_)
  intro w3 n3
  have N3 := Lib.hid n3
  clear n3
  have NS : NodeS w w3 w.heap.size w1.heap.size w2.heap.size l r := ⟨N1.out.fr.trans (N2.out.fr.trans N3.out.fr), (N1.out.blk.fr N2.out.fr (fun x => x)).fr N3.out.fr (fun x => x), N2.out.blk.fr N3.out.fr (fun x => x), N3.out.blk⟩
  have z0 : w.heap.size ≤ w3.heap.size := NS.fr.size
  have z1 : w.heap.size < w3.heap.size := NS.b0.lt
  have z2 : w1.heap.size < w3.heap.size := NS.b1.lt
  have z3 : w2.heap.size < w3.heap.size := NS.b2.lt
  have HZ : Hid (w.heap.size ≤ w2.heap.size) := (N1.out.fr.trans N2.out.fr).size
  clear N1 N2 N3
  generalize hg0 : w.heap.size = g0 at *
  generalize w1.heap.size = g1 at *
  generalize w2.heap.size = g2 at *
  have HG0 := Lib.hid hg0
  clear hg0
  have zz : w.heap.size ≤ w3.heap.size := NS.fr.size
  go_upto_region 1 with fail
  go_cut [4, 5] (fun p4 p5 wx => ∃ g, p4 = .pointer (some ⟨g2, 0, none⟩) ∧ p5 = .pointer (some ⟨g, 0, none⟩) ∧ wx.rangeAt g 0 RV ∧ NodeS w wx g0 g1 g2 l r)
  case first =>
    have HB0 : Hid (((w3.alloc (.cells #[.string ⟨l.toArray⟩, .string ⟨r.toArray⟩] 9)).alloc (.cells #[.int .u8 0, .int .u8 0, .int .u8 0, .int .u8 0, .int .u8 0, .int .u8 0, .int .u8 0, .int .u8 0, .int .u8 0, .int .u8 0, .int .u8 0, .int .u8 0, .int .u8 0, .int .u8 0, .int .u8 0, .int .u8 0, .int .u8 0, .int .u8 0, .int .u8 0, .int .u8 0, .int .u8 0, .int .u8 0, .int .u8 0, .int .u8 0, .int .u8 0, .int .u8 0, .int .u8 0, .int .u8 0, .int .u8 0, .int .u8 0, .int .u8 0, .int .u8 0] 24)).drew.there (w3.heap.size + 1) 0 32) := by
      have h := Blk.new (w3.alloc (.cells #[.string ⟨l.toArray⟩, .string ⟨r.toArray⟩] 9)) 24 #[.int .u8 0, .int .u8 0, .int .u8 0, .int .u8 0, .int .u8 0, .int .u8 0, .int .u8 0, .int .u8 0, .int .u8 0, .int .u8 0, .int .u8 0, .int .u8 0, .int .u8 0, .int .u8 0, .int .u8 0, .int .u8 0, .int .u8 0, .int .u8 0, .int .u8 0, .int .u8 0, .int .u8 0, .int .u8 0, .int .u8 0, .int .u8 0, .int .u8 0, .int .u8 0, .int .u8 0, .int .u8 0, .int .u8 0, .int .u8 0, .int .u8 0, .int .u8 0]
      rw [show (w3.alloc (.cells #[.string ⟨l.toArray⟩, .string ⟨r.toArray⟩] 9)).heap.size = w3.heap.size + 1 by simp] at h
      exact there_new h.drew rfl
    have HA0 : Hid (((w3.alloc (.cells #[.int .u8 0, .int .u8 0, .int .u8 0, .int .u8 0, .int .u8 0, .int .u8 0, .int .u8 0, .int .u8 0, .int .u8 0, .int .u8 0, .int .u8 0, .int .u8 0, .int .u8 0, .int .u8 0, .int .u8 0, .int .u8 0, .int .u8 0, .int .u8 0, .int .u8 0, .int .u8 0, .int .u8 0, .int .u8 0, .int .u8 0, .int .u8 0, .int .u8 0, .int .u8 0, .int .u8 0, .int .u8 0, .int .u8 0, .int .u8 0, .int .u8 0, .int .u8 0] 24)).alloc (.cells #[.string ⟨l.toArray⟩, .string ⟨r.toArray⟩] 9)).drew.there w3.heap.size 0 32) := there_new ((Blk.new w3 24 #[.int .u8 0, .int .u8 0, .int .u8 0, .int .u8 0, .int .u8 0, .int .u8 0, .int .u8 0, .int .u8 0, .int .u8 0, .int .u8 0, .int .u8 0, .int .u8 0, .int .u8 0, .int .u8 0, .int .u8 0, .int .u8 0, .int .u8 0, .int .u8 0, .int .u8 0, .int .u8 0, .int .u8 0, .int .u8 0, .int .u8 0, .int .u8 0, .int .u8 0, .int .u8 0, .int .u8 0, .int .u8 0, .int .u8 0, .int .u8 0, .int .u8 0, .int .u8 0]).alloc _).drew rfl
    go_region_held3 (fun w' => NodeS w w' g0 g1 g2 l r ∧ (convert 79 9 (.slice (some ⟨g0, 0, none⟩) 32 32)).run Tryd.prog w' = .ok (.string ⟨l.toArray⟩) w' ∧ (convert 79 9 (.slice (some ⟨g1, 0, none⟩) 32 32)).run Tryd.prog w' = .ok (.string ⟨r.toArray⟩) w') ((go_split_ands; refine NodeS.all ?_ HL.out HR.out; first | assumption | exact NodeS.drew (by assumption) | exact NodeS.later (by assumption) (by assumption) | exact NodeS.store (by assumption) ⟨by omega, by omega, by omega, by omega⟩ _ | exact NodeS.alloc (by assumption) _ | exact (NodeS.alloc (by assumption) _).alloc _ | exact (NodeS.drew (by assumption)).alloc _ | exact ((NodeS.drew (by assumption)).alloc _).alloc _)) ((first | (go_at_call 44; go_split_ands; refine (CT.out _ _ (HT.out.fr0 (NodeS.fr (by assumption))) (by simp) (by simp)).mono ?_; rintro e w4 ⟨rfl, f4⟩; have hz4 : w3.heap.size ≤ w4.heap.size := Nat.le_trans (by first | (simp; done) | (simp; omega)) f4.size; have t4 : (w4.alloc (.cells #[.int .u8 0, .int .u8 0, .int .u8 0, .int .u8 0, .int .u8 0, .int .u8 0, .int .u8 0, .int .u8 0, .int .u8 0, .int .u8 0, .int .u8 0, .int .u8 0, .int .u8 0, .int .u8 0, .int .u8 0, .int .u8 0, .int .u8 0, .int .u8 0, .int .u8 0, .int .u8 0, .int .u8 0, .int .u8 0, .int .u8 0, .int .u8 0, .int .u8 0, .int .u8 0, .int .u8 0, .int .u8 0, .int .u8 0, .int .u8 0, .int .u8 0, .int .u8 0] 24)).there w4.heap.size 0 32 := there_new (Blk.new w4 24 #[.int .u8 0, .int .u8 0, .int .u8 0, .int .u8 0, .int .u8 0, .int .u8 0, .int .u8 0, .int .u8 0, .int .u8 0, .int .u8 0, .int .u8 0, .int .u8 0, .int .u8 0, .int .u8 0, .int .u8 0, .int .u8 0, .int .u8 0, .int .u8 0, .int .u8 0, .int .u8 0, .int .u8 0, .int .u8 0, .int .u8 0, .int .u8 0, .int .u8 0, .int .u8 0, .int .u8 0, .int .u8 0, .int .u8 0, .int .u8 0, .int .u8 0, .int .u8 0]) rfl; first | (have tt := there_fr HB0.out (by with_reducible exact f4)) | (have tt := there_fr HA0.out (by with_reducible exact f4)) | skip)))
    all_goals
      go_split_ands
      go_wp2_with fail
      go_meet
      exact ⟨_, rfl, rfl, World.rangeAt_setCells_same _ _ _ _ (by rw [hlen]; assumption), by assumption⟩
  case rest =>
    obtain ⟨g, rfl, rfl, hR, hN⟩ := hcut
    have KN := Lib.hid hN
    have HZ0 : Hid (w.heap.size ≤ g2) := by have := HZ.out; have := HG0.out; simp only [Hid]; omega
    have ty := Tryd.underlying24
    clear NS hN z0 z1 z2 z3
    go_wp2_with (first | (refine wpList_load_mid rfl 24 (.tmp 5) rfl g 0 rfl RV _ hR ty rfl i24 ?_) | (refine wpList_storeBlk rfl 24 (.tmp 4) _ rfl g2 RV.toArray rfl rfl _ _ KN.out.b2 HD.out.info HD.out.zero HD.out.one ?_))
    intro wz b7 f7
    have J4 := Lib.hid b7
    have JF : Hid (Fr Nothing w wz) := KN.out.fr.then_ f7 (fun i hi e => by have e' : i = g2 := e; have := HZ0.out; omega)
    clear b7 f7
    go_wp2
    exact bodyPost_ret (results_cell_row (fn := Tryd.f17) (p := 4) (ty := 24) Tryd.results17 _ wz _ 24 RV.toArray (0, 0) _ rfl J4.out Tryd.underlying24 rfl HD.out.info) rfl ⟨rfl, JF.out⟩
end Go.Proofs.YtkaghbpdnmigmaaDoor
