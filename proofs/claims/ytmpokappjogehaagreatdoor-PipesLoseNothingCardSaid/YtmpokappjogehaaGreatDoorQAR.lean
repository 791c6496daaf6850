/- Steps of the proof of LawPipesLoseNothing: contracts of the functions that the law reaches, for every world that holds what each of them asks. -/
import Derived.Test.YtmpokappjogehaaGreatDoorQAQ
set_option linter.unusedVariables false
set_option linter.unusedSimpArgs false
namespace Go.Proofs.YtmpokappjogehaaGreatDoor
open Go.RowKit

def nOfProcess (o : ByteArray) : NameV := ⟨1, o, 0, 0, ByteArray.empty⟩
theorem OfProcess_any (o : ByteArray) (w : World) : Calls Tryz.prog 169 #[.string o] w (Same' w (.agg (nOfProcess o).cells.toArray)) := by
  have B : Hid (Tryz.prog.built 144 [(0, .int .i64 1), (1, .string o)] = some (nOfProcess o).cells.toArray) := by simp only [Hid]; kernel_rfl
  have O := Lib.hid (NameV.one (nOfProcess o))
  have I : Hid ((Tryz.prog.info? 144).map (·.size) = some (nOfProcess o).cells.toArray.size) := infoName
  have Z : Hid ((#[.int .i64 0, .string ByteArray.empty, .int .i64 0, .int .i64 0, .string ByteArray.empty] : Array Value).size = (nOfProcess o).cells.toArray.size) := rfl
  generalize (nOfProcess o).cells.toArray = CC at *
  go_enter Tryz.func169, Tryz.ntmps169
  go_wp2_with (refine wpList_allocBlk rfl 144 rfl nameZ zvName #[.int .i64 0, .string ByteArray.empty, .int .i64 0, .int .i64 0, .string ByteArray.empty] rfl ?_)
  intro w1 n1
  have N1 := Lib.hid n1
  clear n1
  go_wp2_with (refine wpList_built rfl 144 _ rfl CC _ (by simp only [List.map_toArray, List.map_cons, List.map_nil]; rfl) B.out (Held.go ?hold))
  unfold Held
  refine wpList_storeBlk rfl 144 (.tmp 2) _ rfl w.heap.size CC rfl rfl _ _ N1.out.blk I.out Z.out O.out ?_
  intro wz b5 f5
  have J4 := Lib.hid b5
  have JF : Hid (Fr Nothing w wz) := N1.out.fr.then_ f5 (fun i hi e => by have e' : i = w.heap.size := e; omega)
  clear b5 f5
  go_wp2
  exact bodyPost_ret (results_cell_row (fn := Tryz.f169) (p := 2) (ty := 144) Tryz.results169 _ wz _ 144 CC (0, 0) _ rfl J4.out Tryz.underlying144 rfl I.out) rfl ⟨rfl, JF.out⟩

def nOfRegisters (o : ByteArray) : NameV := ⟨2, o, 0, 0, ByteArray.empty⟩
theorem OfRegisters_any (o : ByteArray) (w : World) : Calls Tryz.prog 195 #[.string o] w (Same' w (.agg (nOfRegisters o).cells.toArray)) := by
  have B : Hid (Tryz.prog.built 144 [(0, .int .i64 2), (1, .string o)] = some (nOfRegisters o).cells.toArray) := by simp only [Hid]; kernel_rfl
  have O := Lib.hid (NameV.one (nOfRegisters o))
  have I : Hid ((Tryz.prog.info? 144).map (·.size) = some (nOfRegisters o).cells.toArray.size) := infoName
  have Z : Hid ((#[.int .i64 0, .string ByteArray.empty, .int .i64 0, .int .i64 0, .string ByteArray.empty] : Array Value).size = (nOfRegisters o).cells.toArray.size) := rfl
  generalize (nOfRegisters o).cells.toArray = CC at *
  go_enter Tryz.func195, Tryz.ntmps195
  go_wp2_with (refine wpList_allocBlk rfl 144 rfl nameZ zvName #[.int .i64 0, .string ByteArray.empty, .int .i64 0, .int .i64 0, .string ByteArray.empty] rfl ?_)
  intro w1 n1
  have N1 := Lib.hid n1
  clear n1
  go_wp2_with (refine wpList_built rfl 144 _ rfl CC _ (by simp only [List.map_toArray, List.map_cons, List.map_nil]; rfl) B.out (Held.go ?hold))
  unfold Held
  refine wpList_storeBlk rfl 144 (.tmp 2) _ rfl w.heap.size CC rfl rfl _ _ N1.out.blk I.out Z.out O.out ?_
  intro wz b5 f5
  have J4 := Lib.hid b5
  have JF : Hid (Fr Nothing w wz) := N1.out.fr.then_ f5 (fun i hi e => by have e' : i = w.heap.size := e; omega)
  clear b5 f5
  go_wp2
  exact bodyPost_ret (results_cell_row (fn := Tryz.f195) (p := 2) (ty := 144) Tryz.results195 _ wz _ 144 CC (0, 0) _ rfl J4.out Tryz.underlying144 rfl I.out) rfl ⟨rfl, JF.out⟩

def nOfTable (o : ByteArray) : NameV := ⟨4, o, 0, 0, ByteArray.empty⟩
theorem OfTable_any (o : ByteArray) (w : World) : Calls Tryz.prog 99 #[.string o] w (Same' w (.agg (nOfTable o).cells.toArray)) := by
  have B : Hid (Tryz.prog.built 144 [(0, .int .i64 4), (1, .string o)] = some (nOfTable o).cells.toArray) := by simp only [Hid]; kernel_rfl
  have O := Lib.hid (NameV.one (nOfTable o))
  have I : Hid ((Tryz.prog.info? 144).map (·.size) = some (nOfTable o).cells.toArray.size) := infoName
  have Z : Hid ((#[.int .i64 0, .string ByteArray.empty, .int .i64 0, .int .i64 0, .string ByteArray.empty] : Array Value).size = (nOfTable o).cells.toArray.size) := rfl
  generalize (nOfTable o).cells.toArray = CC at *
  go_enter Tryz.func99, Tryz.ntmps99
  go_wp2_with (refine wpList_allocBlk rfl 144 rfl nameZ zvName #[.int .i64 0, .string ByteArray.empty, .int .i64 0, .int .i64 0, .string ByteArray.empty] rfl ?_)
  intro w1 n1
  have N1 := Lib.hid n1
  clear n1
  go_wp2_with (refine wpList_built rfl 144 _ rfl CC _ (by simp only [List.map_toArray, List.map_cons, List.map_nil]; rfl) B.out (Held.go ?hold))
  unfold Held
  refine wpList_storeBlk rfl 144 (.tmp 2) _ rfl w.heap.size CC rfl rfl _ _ N1.out.blk I.out Z.out O.out ?_
  intro wz b5 f5
  have J4 := Lib.hid b5
  have JF : Hid (Fr Nothing w wz) := N1.out.fr.then_ f5 (fun i hi e => by have e' : i = w.heap.size := e; omega)
  clear b5 f5
  go_wp2
  exact bodyPost_ret (results_cell_row (fn := Tryz.f99) (p := 2) (ty := 144) Tryz.results99 _ wz _ 144 CC (0, 0) _ rfl J4.out Tryz.underlying144 rfl I.out) rfl ⟨rfl, JF.out⟩

def nOfCounter (o : ByteArray) : NameV := ⟨5, o, 0, 0, ByteArray.empty⟩
theorem OfCounter_any (o : ByteArray) (w : World) : Calls Tryz.prog 135 #[.string o] w (Same' w (.agg (nOfCounter o).cells.toArray)) := by
  have B : Hid (Tryz.prog.built 144 [(0, .int .i64 5), (1, .string o)] = some (nOfCounter o).cells.toArray) := by simp only [Hid]; kernel_rfl
  have O := Lib.hid (NameV.one (nOfCounter o))
  have I : Hid ((Tryz.prog.info? 144).map (·.size) = some (nOfCounter o).cells.toArray.size) := infoName
  have Z : Hid ((#[.int .i64 0, .string ByteArray.empty, .int .i64 0, .int .i64 0, .string ByteArray.empty] : Array Value).size = (nOfCounter o).cells.toArray.size) := rfl
  generalize (nOfCounter o).cells.toArray = CC at *
  go_enter Tryz.func135, Tryz.ntmps135
  go_wp2_with (refine wpList_allocBlk rfl 144 rfl nameZ zvName #[.int .i64 0, .string ByteArray.empty, .int .i64 0, .int .i64 0, .string ByteArray.empty] rfl ?_)
  intro w1 n1
  have N1 := Lib.hid n1
  clear n1
  go_wp2_with (refine wpList_built rfl 144 _ rfl CC _ (by simp only [List.map_toArray, List.map_cons, List.map_nil]; rfl) B.out (Held.go ?hold))
  unfold Held
  refine wpList_storeBlk rfl 144 (.tmp 2) _ rfl w.heap.size CC rfl rfl _ _ N1.out.blk I.out Z.out O.out ?_
  intro wz b5 f5
  have J4 := Lib.hid b5
  have JF : Hid (Fr Nothing w wz) := N1.out.fr.then_ f5 (fun i hi e => by have e' : i = w.heap.size := e; omega)
  clear b5 f5
  go_wp2
  exact bodyPost_ret (results_cell_row (fn := Tryz.f135) (p := 2) (ty := 144) Tryz.results135 _ wz _ 144 CC (0, 0) _ rfl J4.out Tryz.underlying144 rfl I.out) rfl ⟨rfl, JF.out⟩

def nOfPending (o : ByteArray) : NameV := ⟨6, o, 0, 0, ByteArray.empty⟩
theorem OfPending_any (o : ByteArray) (w : World) : Calls Tryz.prog 208 #[.string o] w (Same' w (.agg (nOfPending o).cells.toArray)) := by
  have B : Hid (Tryz.prog.built 144 [(0, .int .i64 6), (1, .string o)] = some (nOfPending o).cells.toArray) := by simp only [Hid]; kernel_rfl
  have O := Lib.hid (NameV.one (nOfPending o))
  have I : Hid ((Tryz.prog.info? 144).map (·.size) = some (nOfPending o).cells.toArray.size) := infoName
  have Z : Hid ((#[.int .i64 0, .string ByteArray.empty, .int .i64 0, .int .i64 0, .string ByteArray.empty] : Array Value).size = (nOfPending o).cells.toArray.size) := rfl
  generalize (nOfPending o).cells.toArray = CC at *
  go_enter Tryz.func208, Tryz.ntmps208
  go_wp2_with (refine wpList_allocBlk rfl 144 rfl nameZ zvName #[.int .i64 0, .string ByteArray.empty, .int .i64 0, .int .i64 0, .string ByteArray.empty] rfl ?_)
  intro w1 n1
  have N1 := Lib.hid n1
  clear n1
  go_wp2_with (refine wpList_built rfl 144 _ rfl CC _ (by simp only [List.map_toArray, List.map_cons, List.map_nil]; rfl) B.out (Held.go ?hold))
  unfold Held
  refine wpList_storeBlk rfl 144 (.tmp 2) _ rfl w.heap.size CC rfl rfl _ _ N1.out.blk I.out Z.out O.out ?_
  intro wz b5 f5
  have J4 := Lib.hid b5
  have JF : Hid (Fr Nothing w wz) := N1.out.fr.then_ f5 (fun i hi e => by have e' : i = w.heap.size := e; omega)
  clear b5 f5
  go_wp2
  exact bodyPost_ret (results_cell_row (fn := Tryz.f208) (p := 2) (ty := 144) Tryz.results208 _ wz _ 144 CC (0, 0) _ rfl J4.out Tryz.underlying144 rfl I.out) rfl ⟨rfl, JF.out⟩

end Go.Proofs.YtmpokappjogehaaGreatDoor

namespace Go.Proofs.YtmpokappjogehaaGreatDoor
open Go.RowKit

structure BirthV where
  maker : ByteArray
  number : Int
  deriving DecidableEq
def BirthV.cells (b : BirthV) : List Value := [.string b.maker, .int .i64 b.number]
theorem infoBirth : (Tryz.prog.info? 48).map (·.size) = some 2 := by kernel_rfl
def nBirth (k : Int) (b : BirthV) : NameV := ⟨k, b.maker, b.number, 0, ByteArray.empty⟩
theorem ofBirth_any (k : Int) (b : BirthV) (w : World) : Calls Tryz.prog 180 #[.int .i64 k, .agg b.cells.toArray] w (Same' w (.agg (nBirth k b).cells.toArray)) := by
  have B : Hid (Tryz.prog.built 144 [(0, .int .i64 k), (1, .string b.maker), (2, .int .i64 b.number)] = some (nBirth k b).cells.toArray) := by simp only [Hid]; kernel_rfl
  have O := Lib.hid (NameV.one (nBirth k b))
  have I : Hid ((Tryz.prog.info? 144).map (·.size) = some (nBirth k b).cells.toArray.size) := infoName
  have Z : Hid ((#[.int .i64 0, .string ByteArray.empty, .int .i64 0, .int .i64 0, .string ByteArray.empty] : Array Value).size = (nBirth k b).cells.toArray.size) := rfl
  generalize (nBirth k b).cells.toArray = CC at *
  go_enter Tryz.func180, Tryz.ntmps180
  go_wp2_with (refine wpList_boxBlk rfl 48 (.tmp 1) rfl b.cells.toArray rfl ?_)
  intro w0 n0
  have F0 := Lib.hid n0.fr
  have B0 := Lib.hid n0.blk
  clear n0
  generalize w.heap.size = gb at *
  go_wp2_with (refine wpList_allocBlk rfl 144 rfl nameZ zvName #[.int .i64 0, .string ByteArray.empty, .int .i64 0, .int .i64 0, .string ByteArray.empty] rfl ?_)
  intro w1 n1
  have N1 := Lib.hid n1
  have B1 := Lib.hid (Blk.fr B0.out n1.fr (fun x => x))
  clear n1 B0
  have c0 : w1.cell? ⟨gb, 0, none⟩ = some (.string b.maker) := B1.out.cell 0
  have c1 : w1.cell? ⟨gb, 1, none⟩ = some (.int .i64 b.number) := B1.out.cell 1
  go_wp2_with (refine wpList_built rfl 144 _ rfl CC _ (by simp only [List.map_toArray, List.map_cons, List.map_nil]; rfl) B.out (Held.go ?hold))
  unfold Held
  refine wpList_storeBlk rfl 144 (.tmp 4) _ rfl w0.heap.size CC rfl rfl _ _ N1.out.blk I.out Z.out O.out ?_
  intro wz b5 f5
  have J4 := Lib.hid b5
  have JF : Hid (Fr Nothing w wz) := (F0.out.trans N1.out.fr).then_ f5 (fun i hi e => by have e' : i = w0.heap.size := e; have := F0.out.size; omega)
  clear b5 f5
  go_wp2
  exact bodyPost_ret (results_cell_row (fn := Tryz.f180) (p := 4) (ty := 144) Tryz.results180 _ wz _ 144 CC (0, 0) _ rfl J4.out Tryz.underlying144 rfl I.out) rfl ⟨rfl, JF.out⟩
end Go.Proofs.YtmpokappjogehaaGreatDoor

namespace Go.Proofs.YtmpokappjogehaaGreatDoor
open Go.RowKit

set_option maxRecDepth 100000 in
theorem OfNode_any (b : BirthV) (w : World) : Calls Tryz.prog 281 #[.agg b.cells.toArray] w (Same' w (.agg (nBirth 7 b).cells.toArray)) := by
  have O := Lib.hid (NameV.one (nBirth 7 b))
  have I : Hid ((Tryz.prog.info? 144).map (·.size) = some (nBirth 7 b).cells.toArray.size) := infoName
  have Z : Hid ((#[.int .i64 0, .string ByteArray.empty, .int .i64 0, .int .i64 0, .string ByteArray.empty] : Array Value).size = (nBirth 7 b).cells.toArray.size) := rfl
  have CB : Hid (∀ w, Calls Tryz.prog 180 #[.int .i64 7, .agg b.cells.toArray] w (Same' w (.agg (nBirth 7 b).cells.toArray))) := ofBirth_any 7 b
  generalize (nBirth 7 b).cells.toArray = CC at *
  go_enter Tryz.func281, Tryz.ntmps281
  go_wp2_with (refine wpList_boxBlk rfl 48 (.tmp 0) rfl b.cells.toArray rfl ?_)
  intro w0 n0
  have F0 := Lib.hid n0.fr
  have B0 := Lib.hid n0.blk
  clear n0
  generalize w.heap.size = gb at *
  go_wp2_with (refine wpList_allocBlk rfl 144 rfl nameZ zvName #[.int .i64 0, .string ByteArray.empty, .int .i64 0, .int .i64 0, .string ByteArray.empty] rfl ?_)
  intro w1 n1
  have N1 := Lib.hid n1
  have B1 := Lib.hid (Blk.fr B0.out n1.fr (fun x => x))
  clear n1 B0
  go_wp2_with (refine wpList_load_add rfl 48 (.tmp 1) rfl ⟨gb, 0, none⟩ rfl b.cells _ (blk_at B1.out 0 _ (fun j v h => by rw [Nat.zero_add, List.getElem?_toArray]; exact h)) Tryz.underlying48 rfl infoBirth (Held.go ?hk))
  unfold Held
  go_wp2_with fail
  refine (CB.out _).mono ?_
  rintro e w2 ⟨rfl, f2⟩
  have F2 := Lib.hid f2
  have N2 := Lib.hid (Blk.fr N1.out.blk f2 (fun x => x))
  have hs : Hid (w.heap.size ≤ w0.heap.size) := F0.out.size
  clear f2
  generalize w0.heap.size = ga at *
  go_wp2_with (refine wpList_storeBlk rfl 144 (.tmp 2) _ rfl ga CC rfl rfl _ _ N2.out I.out Z.out O.out ?_)
  intro wz b5 f5
  have J4 := Lib.hid b5
  have JF : Hid (Fr Nothing w wz) := ((F0.out.trans N1.out.fr).trans F2.out).then_ f5 (fun i hi e => by have e' : i = ga := e; have := hs.out; omega)
  clear b5 f5
  go_wp2
  exact bodyPost_ret (results_cell_row (fn := Tryz.f281) (p := 2) (ty := 144) Tryz.results281 _ wz _ 144 CC (0, 0) _ rfl J4.out Tryz.underlying144 rfl I.out) rfl ⟨rfl, JF.out⟩

set_option maxRecDepth 100000 in
theorem OfListing_any (b : BirthV) (w : World) : Calls Tryz.prog 140 #[.agg b.cells.toArray] w (Same' w (.agg (nBirth 10 b).cells.toArray)) := by
  have O := Lib.hid (NameV.one (nBirth 10 b))
  have I : Hid ((Tryz.prog.info? 144).map (·.size) = some (nBirth 10 b).cells.toArray.size) := infoName
  have Z : Hid ((#[.int .i64 0, .string ByteArray.empty, .int .i64 0, .int .i64 0, .string ByteArray.empty] : Array Value).size = (nBirth 10 b).cells.toArray.size) := rfl
  have CB : Hid (∀ w, Calls Tryz.prog 180 #[.int .i64 10, .agg b.cells.toArray] w (Same' w (.agg (nBirth 10 b).cells.toArray))) := ofBirth_any 10 b
  generalize (nBirth 10 b).cells.toArray = CC at *
  go_enter Tryz.func140, Tryz.ntmps140
  go_wp2_with (refine wpList_boxBlk rfl 48 (.tmp 0) rfl b.cells.toArray rfl ?_)
  intro w0 n0
  have F0 := Lib.hid n0.fr
  have B0 := Lib.hid n0.blk
  clear n0
  generalize w.heap.size = gb at *
  go_wp2_with (refine wpList_allocBlk rfl 144 rfl nameZ zvName #[.int .i64 0, .string ByteArray.empty, .int .i64 0, .int .i64 0, .string ByteArray.empty] rfl ?_)
  intro w1 n1
  have N1 := Lib.hid n1
  have B1 := Lib.hid (Blk.fr B0.out n1.fr (fun x => x))
  clear n1 B0
  go_wp2_with (refine wpList_load_add rfl 48 (.tmp 1) rfl ⟨gb, 0, none⟩ rfl b.cells _ (blk_at B1.out 0 _ (fun j v h => by rw [Nat.zero_add, List.getElem?_toArray]; exact h)) Tryz.underlying48 rfl infoBirth (Held.go ?hk))
  unfold Held
  go_wp2_with fail
  refine (CB.out _).mono ?_
  rintro e w2 ⟨rfl, f2⟩
  have F2 := Lib.hid f2
  have N2 := Lib.hid (Blk.fr N1.out.blk f2 (fun x => x))
  have hs : Hid (w.heap.size ≤ w0.heap.size) := F0.out.size
  clear f2
  generalize w0.heap.size = ga at *
  go_wp2_with (refine wpList_storeBlk rfl 144 (.tmp 2) _ rfl ga CC rfl rfl _ _ N2.out I.out Z.out O.out ?_)
  intro wz b5 f5
  have J4 := Lib.hid b5
  have JF : Hid (Fr Nothing w wz) := ((F0.out.trans N1.out.fr).trans F2.out).then_ f5 (fun i hi e => by have e' : i = ga := e; have := hs.out; omega)
  clear b5 f5
  go_wp2
  exact bodyPost_ret (results_cell_row (fn := Tryz.f140) (p := 2) (ty := 144) Tryz.results140 _ wz _ 144 CC (0, 0) _ rfl J4.out Tryz.underlying144 rfl I.out) rfl ⟨rfl, JF.out⟩

set_option maxRecDepth 100000 in
theorem OfPipe_any (b : BirthV) (w : World) : Calls Tryz.prog 91 #[.agg b.cells.toArray] w (Same' w (.agg (nBirth 11 b).cells.toArray)) := by
  have O := Lib.hid (NameV.one (nBirth 11 b))
  have I : Hid ((Tryz.prog.info? 144).map (·.size) = some (nBirth 11 b).cells.toArray.size) := infoName
  have Z : Hid ((#[.int .i64 0, .string ByteArray.empty, .int .i64 0, .int .i64 0, .string ByteArray.empty] : Array Value).size = (nBirth 11 b).cells.toArray.size) := rfl
  have CB : Hid (∀ w, Calls Tryz.prog 180 #[.int .i64 11, .agg b.cells.toArray] w (Same' w (.agg (nBirth 11 b).cells.toArray))) := ofBirth_any 11 b
  generalize (nBirth 11 b).cells.toArray = CC at *
  go_enter Tryz.func91, Tryz.ntmps91
  go_wp2_with (refine wpList_boxBlk rfl 48 (.tmp 0) rfl b.cells.toArray rfl ?_)
  intro w0 n0
  have F0 := Lib.hid n0.fr
  have B0 := Lib.hid n0.blk
  clear n0
  generalize w.heap.size = gb at *
  go_wp2_with (refine wpList_allocBlk rfl 144 rfl nameZ zvName #[.int .i64 0, .string ByteArray.empty, .int .i64 0, .int .i64 0, .string ByteArray.empty] rfl ?_)
  intro w1 n1
  have N1 := Lib.hid n1
  have B1 := Lib.hid (Blk.fr B0.out n1.fr (fun x => x))
  clear n1 B0
  go_wp2_with (refine wpList_load_add rfl 48 (.tmp 1) rfl ⟨gb, 0, none⟩ rfl b.cells _ (blk_at B1.out 0 _ (fun j v h => by rw [Nat.zero_add, List.getElem?_toArray]; exact h)) Tryz.underlying48 rfl infoBirth (Held.go ?hk))
  unfold Held
  go_wp2_with fail
  refine (CB.out _).mono ?_
  rintro e w2 ⟨rfl, f2⟩
  have F2 := Lib.hid f2
  have N2 := Lib.hid (Blk.fr N1.out.blk f2 (fun x => x))
  have hs : Hid (w.heap.size ≤ w0.heap.size) := F0.out.size
  clear f2
  generalize w0.heap.size = ga at *
  go_wp2_with (refine wpList_storeBlk rfl 144 (.tmp 2) _ rfl ga CC rfl rfl _ _ N2.out I.out Z.out O.out ?_)
  intro wz b5 f5
  have J4 := Lib.hid b5
  have JF : Hid (Fr Nothing w wz) := ((F0.out.trans N1.out.fr).trans F2.out).then_ f5 (fun i hi e => by have e' : i = ga := e; have := hs.out; omega)
  clear b5 f5
  go_wp2
  exact bodyPost_ret (results_cell_row (fn := Tryz.f91) (p := 2) (ty := 144) Tryz.results91 _ wz _ 144 CC (0, 0) _ rfl J4.out Tryz.underlying144 rfl I.out) rfl ⟨rfl, JF.out⟩

end Go.Proofs.YtmpokappjogehaaGreatDoor

namespace Go.Proofs.YtmpokappjogehaaGreatDoor
open Go.RowKit

def okBirth (b : BirthV) : Bool := validO b.maker && decide (0 ≤ b.number) && decide (b.number ≤ 1073741824)
set_option maxRecDepth 100000 in
set_option maxHeartbeats 2000000 in
theorem BCheck_any (b : BirthV) (w : World) (hb : okBirth b = true) (hs : b.maker.size ≤ 1099511627776) : Calls Tryz.prog 178 #[.agg b.cells.toArray] w (Same' w (.int .i64 0)) := by
  have hb' := hb
  simp only [okBirth, Bool.and_eq_true, decide_eq_true_eq] at hb'
  obtain ⟨⟨h1, h2⟩, h3⟩ := hb'
  have H1 := Lib.hid h1
  clear hb h1
  go_enter Tryz.func178, Tryz.ntmps178
  go_wp2_with (refine wpList_boxBlk rfl 48 (.tmp 0) rfl b.cells.toArray rfl ?_)
  intro w0 n0
  have F0 := Lib.hid n0.fr
  have B0 := Lib.hid n0.blk
  clear n0
  generalize w.heap.size = gb at *
  have c0 : w0.cell? ⟨gb, 0, none⟩ = some (.string b.maker) := B0.out.cell 0
  go_wp2_with fail
  refine (Valid_any b.maker w0 hs).mono ?_
  rintro e w1 ⟨rfl, f1⟩
  rw [H1.out]
  have F1 := Lib.hid (F0.out.trans f1)
  have c1 : w1.cell? ⟨gb, 1, none⟩ = some (.int .i64 b.number) := (Blk.fr B0.out f1 (fun x => x)).cell 1
  clear f1 c0 B0 F0
  go_wp2_with fail
  refine (within_any b.number 1073741824 w1).mono ?_
  rintro e w2 ⟨rfl, rfl⟩
  rw [decide_eq_true h2, decide_eq_true h3]
  go_wp2
  go_ret
  exact ⟨rfl, F1.out⟩
end Go.Proofs.YtmpokappjogehaaGreatDoor

namespace Go.Proofs.YtmpokappjogehaaGreatDoor
open Go.RowKit

def nEpoch : NameV := ⟨20, ByteArray.empty, 0, 0, ByteArray.empty⟩
theorem OfEpoch_any (w : World) : Calls Tryz.prog 252 #[] w (Same' w (.agg nEpoch.cells.toArray)) := by
  have B : Hid (Tryz.prog.built 144 [(0, .int .i64 20)] = some nEpoch.cells.toArray) := by simp only [Hid]; kernel_rfl
  have O := Lib.hid (NameV.one nEpoch)
  have I : Hid ((Tryz.prog.info? 144).map (·.size) = some nEpoch.cells.toArray.size) := infoName
  have Z : Hid ((#[.int .i64 0, .string ByteArray.empty, .int .i64 0, .int .i64 0, .string ByteArray.empty] : Array Value).size = nEpoch.cells.toArray.size) := rfl
  generalize nEpoch.cells.toArray = CC at *
  go_enter Tryz.func252, Tryz.ntmps252
  go_wp2_with (refine wpList_allocBlk rfl 144 rfl nameZ zvName #[.int .i64 0, .string ByteArray.empty, .int .i64 0, .int .i64 0, .string ByteArray.empty] rfl ?_)
  intro w1 n1
  have N1 := Lib.hid n1
  clear n1
  go_wp2_with (refine wpList_built rfl 144 _ rfl CC _ (by simp only [List.map_toArray, List.map_cons, List.map_nil]; rfl) B.out (Held.go ?hold))
  unfold Held
  refine wpList_storeBlk rfl 144 (.tmp 0) _ rfl w.heap.size CC rfl rfl _ _ N1.out.blk I.out Z.out O.out ?_
  intro wz b5 f5
  have J4 := Lib.hid b5
  have JF : Hid (Fr Nothing w wz) := N1.out.fr.then_ f5 (fun i hi e => by have e' : i = w.heap.size := e; omega)
  clear b5 f5
  go_wp2
  exact bodyPost_ret (results_cell_row (fn := Tryz.f252) (p := 0) (ty := 144) Tryz.results252 _ wz _ 144 CC (0, 0) _ rfl J4.out Tryz.underlying144 rfl I.out) rfl ⟨rfl, JF.out⟩
end Go.Proofs.YtmpokappjogehaaGreatDoor
