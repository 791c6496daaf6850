/- logtree: Leaf, Node, Empty; the reference's Leaf, text, Pair, Node, Empty. -/
import Derived.Test.YtkaghbpdnmigmaaDoorShaW
namespace Go.Proofs.YtkaghbpdnmigmaaDoor
open Go.RowKit

/-- The digests of leaves, nodes, and of the empty tree. -/
def leafD (s : List UInt8) : List UInt8 := shaL (joinL 0 [s])
def nodeD (l r : List UInt8) : List UInt8 := shaL (joinL 1 [l, r])
def emptyD : List UInt8 := shaL (joinL 2 [])
theorem leafD_length (s : List UInt8) : (leafD s).length = 32 := shaL_length _
theorem nodeD_length (l r : List UInt8) : (nodeD l r).length = 32 := shaL_length _
theorem emptyD_length : emptyD.length = 32 := shaL_length _

theorem JoinK_le0 (tag : UInt8) (k : Nat) : (JoinK tag [] k).length ≤ 1099511627776 := by simp [JoinK]
theorem JoinK_le1 (tag : UInt8) (s : ByteArray) (hs : s.size < 4294967296) (k : Nat) : (JoinK tag [s] k).length ≤ 1099511627776 := by
  have hw : (wBytes s.size).length = 4 := rfl
  rcases k with _ | k <;> simp [JoinK, txL_length, hw] <;> omega
theorem JoinK_le2 (tag : UInt8) (s t : ByteArray) (hs : s.size < 4294967296) (ht : t.size < 4294967296) (k : Nat) : (JoinK tag [s, t] k).length ≤ 1099511627776 := by
  have hw : (wBytes s.size).length = 4 := rfl
  have hw' : (wBytes t.size).length = 4 := rfl
  rcases k with _ | _ | k <;> simp [JoinK, txL_length, hw, hw'] <;> omega

/-- A row of strings that was just made. -/
theorem rd_newL (w : World) (cs : List Value) (n : Nat) (hn : cs.length = n) (t : TypeId) : Rd (w.alloc (.cells cs.toArray t)) (fun k => k = w.heap.size) 1 (some ⟨w.heap.size, 0, none⟩) n cs := by
  refine ⟨by rw [hn, Nat.mul_one], fun _ => ⟨_, rfl, rfl, fun j u hu => ?_⟩⟩
  have : (⟨w.heap.size, 0, none⟩ : Addr).add j = ⟨w.heap.size, j, none⟩ := by rw [Addr.add_mid, Nat.zero_add]
  rw [this, (Blk.new w t cs.toArray).cell, List.getElem?_toArray]
  exact hu
theorem rd_blk {w : World} {g : Nat} {t : TypeId} {cs : List Value} (h : Blk w g t cs.toArray) {n : Nat} (hn : cs.length = n) : Rd w (fun k => k = g) 1 (some ⟨g, 0, none⟩) n cs := by
  refine ⟨by rw [hn, Nat.mul_one], fun _ => ⟨_, rfl, rfl, fun j u hu => ?_⟩⟩
  rw [Addr.add_mid, Nat.zero_add, h.cell, List.getElem?_toArray]
  exact hu

/-- The cells of a digest, under a name: a row of 32 cells. -/
structure Dig (RA : Array Value) : Prop where
  size : RA.size = 32
  one : RA.all (·.oneCell') = true
theorem Dig.of {l : List UInt8} (h : l.length = 32) : Dig (l.map bvI).toArray := ⟨by simp [h], bytes_one l⟩
theorem Dig.info {RA : Array Value} (h : Dig RA) : (Tryd.prog.info? 24).map (·.size) = some RA.size := by rw [h.size]; exact infoD
theorem Dig.infoR {RA : Array Value} (h : Dig RA) : (Tryd.prog.info? 23).map (·.size) = some RA.size := by rw [h.size]; exact info32
theorem Dig.zero {RA : Array Value} (h : Dig RA) : zero32c.size = RA.size := by rw [h.size]; rfl

set_option maxRecDepth 100000 in
set_option maxHeartbeats 1000000 in
theorem Leaf_any (s : ByteArray) (w : World) (hT : ShaTab w) (hs : s.size < 4294967296) : Calls Tryd.prog 12 #[.string s] w (Same' w (digV (leafD (txL s)))) := by
  have CT : Hid (∀ w', ShaTab w' → Calls Tryd.prog 44 #[.int .u8 0, .slice (some ⟨w'.heap.size, 0, none⟩) 1 1] (w'.alloc (.cells #[.string s] 9)) (Same' (w'.alloc (.cells #[.string s] 9)) (.tuple #[digV (leafD (txL s)), .int .i64 0]))) :=
    fun w' ht => Tagged_any 0 [s] (some ⟨w'.heap.size, 0, none⟩) 1 1 _ _ (ht.fr0 ((Fr.refl _ _).alloc _)) (rd_newL w' [.string s] 1 rfl 9) (by omega) (JoinK_le1 0 s hs) (by simpa using hs)
  have HT := Lib.hid hT
  have HD := Lib.hid (Dig.of (leafD_length (txL s)))
  unfold digV at *
  generalize ((leafD (txL s)).map bvI).toArray = RA at *
  clear hT
  go_enter Tryd.func12, Tryd.ntmps12
  go_wp2_with (refine wpList_allocBlk rfl 24 rfl zero32 zvD zero32c rfl ?_)
  intro w1 n1
  have N1 := Lib.hid n1
  clear n1
  go_wp2_with fail
  refine (CT.out _ (HT.out.fr0 N1.out.fr)).mono ?_
  rintro e w2 ⟨rfl, f2⟩
  have F2 : Hid (Fr Nothing w1 w2) := ((Fr.refl _ w1).alloc _).trans f2
  clear f2 CT
  go_wp2_with (refine wpList_allocBlk rfl 24 rfl zero32 zvD zero32c rfl ?_)
  intro w3 n3
  have B3 := Lib.hid n3.blk
  have F3 : Hid (Fr Nothing w w3) := N1.out.fr.trans (F2.out.trans n3.fr)
  have R3 := Lib.hid (N1.out.blk.fr (F2.out.trans n3.fr) (fun x => x))
  have HLT : Hid (w.heap.size < w2.heap.size) := by have := F2.out.size; have := N1.out.size; simp only [Hid]; omega
  clear n3 N1 F2
  generalize hg : w2.heap.size = g at *
  have HG := Lib.hid hg
  clear hg
  go_wp2_with (refine wpList_storeBlk rfl 24 (.tmp 3) _ rfl g RA rfl rfl _ _ B3.out HD.out.info HD.out.zero HD.out.one ?_)
  intro w4 b4 f4
  have B4 := Lib.hid b4
  have F4 : Hid (Fr Nothing w w4) := F3.out.then_ f4 (fun i hi e => by have e' : i = g := e; have := HLT.out; omega)
  have R4 := Lib.hid (R3.out.fr f4 (fun e => by have e' : w.heap.size = g := e; have := HLT.out; omega))
  clear b4 f4 F3 R3 B3
  go_wp2_with (first | (refine wpList_load_row rfl 24 (.tmp 3) rfl g rfl _ RA _ _ B4.out Tryd.underlying24 rfl HD.out.info ?_) | (refine wpList_storeBlk rfl 24 (.tmp 2) _ rfl w.heap.size RA rfl rfl _ _ R4.out HD.out.info HD.out.zero HD.out.one ?_))
  intro wz b5 f5
  have J4 := Lib.hid b5
  have JF : Hid (Fr Nothing w wz) := F4.out.then_ f5 (fun i hi e => by have e' : i = w.heap.size := e; omega)
  clear b5 f5
  go_wp2
  exact bodyPost_ret (results_cell_row (fn := Tryd.f12) (p := 2) (ty := 24) Tryd.results12 _ wz _ 24 RA (0, 0) _ rfl J4.out Tryd.underlying24 rfl HD.out.info) rfl ⟨rfl, JF.out⟩

set_option maxRecDepth 100000 in
set_option maxHeartbeats 1000000 in
theorem Empty_any (w : World) (hT : ShaTab w) : Calls Tryd.prog 19 #[] w (Same' w (digV emptyD)) := by
  have CT : Hid (∀ w', ShaTab w' → Calls Tryd.prog 44 #[.int .u8 2, .slice none 0 0] w' (Same' w' (.tuple #[digV emptyD, .int .i64 0]))) :=
    fun w' ht => Tagged_any 2 [] none 0 0 (fun _ => False) _ ht Rd.none_ (by omega) (JoinK_le0 2) (by simp)
  have HT := Lib.hid hT
  have HD := Lib.hid (Dig.of emptyD_length)
  unfold digV at *
  generalize (emptyD.map bvI).toArray = RA at *
  clear hT
  go_enter Tryd.func19, Tryd.ntmps19
  go_wp2_with (refine wpList_allocBlk rfl 24 rfl zero32 zvD zero32c rfl ?_)
  intro w1 n1
  have N1 := Lib.hid n1
  clear n1
  go_wp2_with fail
  refine (CT.out _ (HT.out.fr0 N1.out.fr)).mono ?_
  rintro e w2 ⟨rfl, f2⟩
  have F2 : Hid (Fr Nothing w1 w2) := f2
  clear f2 CT
  go_wp2_with (refine wpList_allocBlk rfl 24 rfl zero32 zvD zero32c rfl ?_)
  intro w3 n3
  have B3 := Lib.hid n3.blk
  have F3 : Hid (Fr Nothing w w3) := N1.out.fr.trans (F2.out.trans n3.fr)
  have R3 := Lib.hid (N1.out.blk.fr (F2.out.trans n3.fr) (fun x => x))
  have HLT : Hid (w.heap.size < w2.heap.size) := by have := F2.out.size; have := N1.out.size; simp only [Hid]; omega
  clear n3 N1 F2
  generalize hg : w2.heap.size = g at *
  have HG := Lib.hid hg
  clear hg
  go_wp2_with (refine wpList_storeBlk rfl 24 (.tmp 1) _ rfl g RA rfl rfl _ _ B3.out HD.out.info HD.out.zero HD.out.one ?_)
  intro w4 b4 f4
  have B4 := Lib.hid b4
  have F4 : Hid (Fr Nothing w w4) := F3.out.then_ f4 (fun i hi e => by have e' : i = g := e; have := HLT.out; omega)
  have R4 := Lib.hid (R3.out.fr f4 (fun e => by have e' : w.heap.size = g := e; have := HLT.out; omega))
  clear b4 f4 F3 R3 B3
  go_wp2_with (first | (refine wpList_load_row rfl 24 (.tmp 1) rfl g rfl _ RA _ _ B4.out Tryd.underlying24 rfl HD.out.info ?_) | (refine wpList_storeBlk rfl 24 (.tmp 0) _ rfl w.heap.size RA rfl rfl _ _ R4.out HD.out.info HD.out.zero HD.out.one ?_))
  intro wz b5 f5
  have J4 := Lib.hid b5
  have JF : Hid (Fr Nothing w wz) := F4.out.then_ f5 (fun i hi e => by have e' : i = w.heap.size := e; omega)
  clear b5 f5
  go_wp2
  exact bodyPost_ret (results_cell_row (fn := Tryd.f19) (p := 0) (ty := 24) Tryd.results19 _ wz _ 24 RA (0, 0) _ rfl J4.out Tryd.underlying24 rfl HD.out.info) rfl ⟨rfl, JF.out⟩
end Go.Proofs.YtkaghbpdnmigmaaDoor
