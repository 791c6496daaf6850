/- State: Of (written by genSbO.py). -/
import Derived.Test.YtpnchdgplpdefaaDoorSbN
namespace Go.Proofs.YtpnchdgplpdefaaDoor
open Go.RowKit Go.Shelf

theorem builtNref (n : NameV) : Tryd.prog.built 40 [(0, .int .i64 n.kind), (1, .string n.owner), (2, .int .i64 n.number), (3, .int .i64 n.index), (4, .string n.text)] = some n.cells.toArray := by kernel_rfl
theorem zvNref (w : World) : (zeroValue 40).run Tryd.prog w = .ok nameZ w := by kernel_rfl
set_option maxRecDepth 100000 in
set_option maxHeartbeats 4000000 in
theorem Of4_any (n : NameV) (w : World) : Calls Tryd.prog 22 #[.agg n.cells.toArray] w (Same' w (.agg n.cells.toArray)) := by
  have B := Lib.hid (builtNref n)
  have O := Lib.hid n.one
  have I : Hid ((Tryd.prog.info? 40).map (·.size) = some n.cells.toArray.size) := infoN
  have Z : Hid ((#[.int .i64 0, .string ByteArray.empty, .int .i64 0, .int .i64 0, .string ByteArray.empty] : Array Value).size = n.cells.toArray.size) := rfl
  go_enter Tryd.func22, Tryd.ntmps22
  go_wp2_with (refine wpList_boxBlk rfl 36 (.tmp 0) rfl n.cells.toArray rfl ?_)
  intro w1 n1
  have F1 := Lib.hid n1.fr
  have NB := Lib.hid n1.blk
  clear n1
  generalize w.heap.size = gb at *
  go_wp2_with (refine wpList_allocBlk rfl 40 rfl nameZ zvNref #[.int .i64 0, .string ByteArray.empty, .int .i64 0, .int .i64 0, .string ByteArray.empty] rfl ?_)
  intro w2 n2
  have N2 := Lib.hid n2
  clear n2
  have F2 := Lib.hid (F1.out.trans N2.out.fr)
  have NB2 := Lib.hid (NB.out.fr N2.out.fr (fun x => x))
  generalize hgr : w1.heap.size = gr at *
  have HGR := Lib.hid hgr
  clear hgr
  have R2 : Hid (Blk w2 gr 40 #[.int .i64 0, .string ByteArray.empty, .int .i64 0, .int .i64 0, .string ByteArray.empty]) := by have h := N2.out.blk; rw [HGR.out] at h; exact h
  have c0 : w2.cell? ⟨gb, 0, none⟩ = some (.int .i64 n.kind) := NB2.out.cell 0
  have c1 : w2.cell? ⟨gb, 1, none⟩ = some (.string n.owner) := NB2.out.cell 1
  have c2 : w2.cell? ⟨gb, 2, none⟩ = some (.int .i64 n.number) := NB2.out.cell 2
  have c3 : w2.cell? ⟨gb, 3, none⟩ = some (.int .i64 n.index) := NB2.out.cell 3
  have c4 : w2.cell? ⟨gb, 4, none⟩ = some (.string n.text) := NB2.out.cell 4
  clear NB
  go_wp2_with (refine wpList_built rfl 40 _ rfl n.cells.toArray _ (by simp only [List.map_toArray, List.map_cons, List.map_nil]; rfl) B.out (Held.go ?hold))
  unfold Held
  refine wpList_storeBlk rfl 40 (.tmp 2) _ rfl gr n.cells.toArray rfl rfl _ _ R2.out I.out Z.out O.out ?_
  intro wz b5 f5
  have J4 := Lib.hid b5
  have JF : Hid (Fr Nothing w wz) := F2.out.then_ f5 (fun i hi e => by have e' : i = gr := e; have q1 := HGR.out; have q2 := F1.out.size; omega)
  clear b5 f5 N2 NB2 R2 HGR c0 c1 c2 c3 c4
  go_wp2
  exact bodyPost_ret (results_cell_row (fn := Tryd.f22) (p := 2) (ty := 40) Tryd.results22 _ wz _ 40 n.cells.toArray (0, 0) _ rfl J4.out Tryd.underlying40 rfl I.out) rfl ⟨rfl, JF.out⟩
set_option maxRecDepth 100000 in
theorem neqN_same (a : NameV) (w : World) : (binOp .neq 40 (.agg a.cells.toArray) (.agg a.cells.toArray)).run Tryd.prog w = .ok (.bool false) w := by
  obtain ⟨k, o, n, i, t⟩ := a
  simp only [NameV.cells]
  go_simp
theorem flat5 : ∀ (xs : List Ent) (k : Nat) (c : Ent), xs[k]? = some c → ∀ j x, c.1.cells[j]? = some x → (xs.flatMap (fun x => x.1.cells))[k * 5 + j]? = some x
  | [], _, _, h, _, _, _ => by simp at h
  | y :: ys, 0, c, h, j, x, hx => by
    simp only [List.getElem?_cons_zero, Option.some.injEq] at h
    subst h
    have hj : j < 5 := (List.getElem?_eq_some_iff.1 hx).1
    rw [List.flatMap_cons, Nat.zero_mul, Nat.zero_add, List.getElem?_append_left hj]
    exact hx
  | y :: ys, k + 1, c, h, j, x, hx => by
    rw [List.flatMap_cons, List.getElem?_append_right (by rw [NameV.cells_length]; omega), show (k + 1) * 5 + j - y.1.cells.length = k * 5 + j by rw [NameV.cells_length]; omega]
    exact flat5 ys k c (by simpa using h) j x hx
end Go.Proofs.YtpnchdgplpdefaaDoor
