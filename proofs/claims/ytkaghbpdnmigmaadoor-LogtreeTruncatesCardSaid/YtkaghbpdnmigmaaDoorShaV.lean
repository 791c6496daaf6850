/- sha256.Hash.Sum: plain parts, and the two new blocks of its walk. -/
import Derived.Test.YtkaghbpdnmigmaaDoorShaC
import Derived.Test.YtkaghbpdnmigmaaDoorShaH
import Derived.Deep.MidRow
namespace Go.Proofs.YtkaghbpdnmigmaaDoor
open Go.RowKit

theorem zvD (w : World) : (zeroValue 24).run Tryd.prog w = .ok zero32 w := by kernel_rfl
theorem len8s (V : St8) : (Tryd.prog.info? 97).map (·.size) = some (stV V).length := by kernel_rfl
theorem info64b : (Tryd.prog.info? 129).map (·.size) = some 64 := by kernel_rfl
theorem infoD : (Tryd.prog.info? 24).map (·.size) = some 32 := by kernel_rfl
theorem zvU8 (w : World) : (zeroValue 5).run Tryd.prog w = .ok (.int .u8 0) w := by kernel_rfl

/-- The block behind the text: the text's end, 128, zeros. -/
def endB (rest : List UInt8) (a : Nat) : List UInt8 := rest.take a ++ 128 :: List.replicate (63 - a) 0
theorem endB_length (rest : List UInt8) (a : Nat) (hr : rest.length = 64) (ha : a < 64) : (endB rest a).length = 64 := by simp [endB, hr]; omega
theorem endB_of (rest : List UInt8) (a : Nat) (hr : rest.length = 64) (ha : a < 64) : laidOver (rest.set a 128) (a + 1) (List.replicate (63 - a) 0) = endB rest a := by
  unfold laidOver endB
  rw [List.drop_of_length_le (by simp [hr]; omega), List.append_nil, List.take_set, List.take_succ_eq_append_getElem (by omega : a < rest.length), List.set_append_right _ _ (by simp; omega)]
  simp [hr]
  rw [show a - min a 64 = 0 by omega]
  rfl
theorem endB_63 (rest : List UInt8) (hr : rest.length = 64) : rest.set 63 128 = endB rest 63 := by
  rw [← endB_of rest 63 hr (by omega), laidOver]
  simp
/-- The block with the last k bytes of the length. -/
def lenK (B : List UInt8) (L k : Nat) : List UInt8 := B.take (64 - k) ++ (len8 L).drop (8 - k)
theorem lenK_length (B : List UInt8) (L k : Nat) (hB : B.length = 64) (hk : k ≤ 8) : (lenK B L k).length = 64 := by simp [lenK, hB, len8_length]; omega
theorem lenK_zero (B : List UInt8) (L : Nat) (hB : B.length = 64) : lenK B L 0 = B := by
  unfold lenK
  rw [List.take_of_length_le (by omega), List.drop_of_length_le (by rw [len8_length]; omega), List.append_nil]
theorem lenK_put (B : List UInt8) (L k : Nat) (hB : B.length = 64) (hk : k < 8) (x : UInt8) (hx : (len8 L)[7 - k]? = some x) : (lenK B L k).set (63 - k) x = lenK B L (k + 1) := by
  unfold lenK
  rw [show 64 - k = (63 - k) + 1 by omega, List.take_succ_eq_append_getElem (by omega : 63 - k < B.length), List.set_append_left _ _ (by simp; omega), List.set_append_right _ _ (by simp; omega)]
  obtain ⟨h1, h2⟩ := List.getElem?_eq_some_iff.1 hx
  rw [show 64 - (k + 1) = 63 - k by omega, show 8 - (k + 1) = 7 - k by omega, List.drop_eq_getElem_cons h1, h2, show 7 - k + 1 = 8 - k by omega]
  rw [show 63 - k - (B.take (63 - k)).length = 0 by simp; omega]
  simp

theorem sha_end (M rest : List UInt8) (h : HashOk M rest) (a : Nat) (ha : a = M.length % 64) :
    (a < 56 → digestS (blockS (runB initS M (M.length / 64)) ((endB rest a).take 56 ++ len8 M.length)) = shaL M) ∧
    (56 ≤ a → digestS (blockS (blockS (runB initS M (M.length / 64)) (endB rest a)) ((List.replicate 64 0).take 56 ++ len8 M.length)) = shaL M) := by
  have hM := hash_ok M rest h
  obtain ⟨q, hq⟩ : ∃ q, q = M.length / 64 := ⟨_, rfl⟩
  have hml : (M.take (64 * q)).length = 64 * q := by rw [List.length_take, hq]; omega
  rw [← ha, ← hq] at hM
  have htl : (rest.take a).length = a := by rw [List.length_take, h.1, ha]; omega
  have hL : M.length = 64 * q + a := by omega
  have hR : runB initS M q = runB initS (M.take (64 * q)) q := by
    rw (occs := .pos [1]) [hM]
    exact runB_append initS _ _ q (by omega)
  rw [← hq, hR, hL]
  constructor
  · intro h56
    have hs := sha_short (M.take (64 * q)) (rest.take a) q hml (by omega)
    rw [← hM, htl] at hs
    rw [hs]
    congr 2
    unfold endB
    rw [show 63 - a = (55 - a) + 8 by omega, ← List.replicate_append_replicate, ← List.cons_append, ← List.append_assoc, List.take_left' (by simp [htl]; omega)]
    simp
  · intro h56
    have hs := sha_long (M.take (64 * q)) (rest.take a) q hml (by omega) (by omega)
    rw [← hM, htl] at hs
    rw [hs]
    congr 2
/-- Two new blocks: the state, and the block. -/
structure Two (w w' : World) (gs gb : Nat) (s : St8) (B : List UInt8) : Prop where
  fr : Fr Nothing w w'
  ss : Blk w' gs 97 (stV s).toArray
  bb : Blk w' gb 129 (B.map bvI).toArray
  os : w.heap.size ≤ gs
  ob : w.heap.size ≤ gb

theorem Two.ne {w w' : World} {gs gb : Nat} {s : St8} {B : List UInt8} (h : Two w w' gs gb s B) : gs ≠ gb := h.ss.ne_ h.bb (by decide)
theorem Two.put {w w' : World} {gs gb : Nat} {s : St8} {B : List UInt8} (h : Two w w' gs gb s B) (i : Nat) (x : UInt8) : Two w (w'.setCell ⟨gb, i, none⟩ (bvI x)) gs gb s (B.set i x) := by
  refine ⟨h.fr.setCell (fun hb => absurd hb (by have := h.ob; simp only; omega)) _, h.ss.far (p := ⟨gb, i, none⟩) h.ne _, ?_, h.os, h.ob⟩
  have := h.bb.set_ i (bvI x)
  rwa [List.setIfInBounds_toArray, ← List.map_set] at this
theorem Two.val {w w' : World} {gs gb : Nat} {s : St8} {B : List UInt8} {p : Addr} {x y : Int} (e : x = y) (h : Two w (w'.setCell p (.int .u8 y)) gs gb s B) : Two w (w'.setCell p (.int .u8 x)) gs gb s B := e ▸ h
theorem Two.setRange {w w' : World} {gs gb : Nat} {s : St8} {B : List UInt8} (h : Two w w' gs gb s B) (o : Nat) (X : List UInt8) (hx : o + X.length ≤ B.length) : Two w (w'.setCells gb o (X.map bvI)) gs gb s (laidOver B o X) := by
  refine ⟨Fr.setCells (fun hb => absurd hb (by have := h.ob; omega)) _ _ _ h.fr, h.ss.fr (Fr.setCells (T := fun k => k = gb) (fun _ => rfl) _ _ _ (Fr.refl _ _)) h.ne, ?_, h.os, h.ob⟩
  have := Blk.setCells (X.map bvI) o _ _ h.bb (by simpa using hx)
  unfold laidOver
  simpa [List.map_take, List.map_drop] using this
theorem Two.clear {w w' : World} {gs gb : Nat} {s : St8} {B : List UInt8} (h : Two w w' gs gb s B) (o n : Nat) (hx : o + n ≤ B.length) : Two w (w'.setCells gb o (List.replicate n (.int .u8 0))) gs gb s (laidOver B o (List.replicate n 0)) := by
  have := h.setRange o (List.replicate n 0) (by simpa using hx)
  rwa [List.map_replicate] at this
theorem Two.turned {w w' w'' : World} {gs gb : Nat} {s s' : St8} {B : List UInt8} (h : Two w w' gs gb s B) (hf : Fr (fun k => k = gs) w' w'') (hb : Blk w'' gs 97 ([] ++ stV s' ++ []).toArray) : Two w w'' gs gb s' B :=
  ⟨h.fr.then_ hf (fun i hi e => by have e' : i = gs := e; have := h.os; omega), by rwa [List.nil_append, List.append_nil] at hb, h.bb.fr hf (fun e => h.ne (Eq.symm e)), h.os, h.ob⟩
theorem Two.state {w w' : World} {gs gb : Nat} {s : St8} {B : List UInt8} (h : Two w w' gs gb s B) : Blk w' gs 97 ([] ++ stV s ++ []).toArray := by rw [List.nil_append, List.append_nil]; exact h.ss
theorem Two.cell {w w' : World} {gs gb : Nat} {s : St8} {B : List UInt8} (h : Two w w' gs gb s B) (hB : B.length = 64) (j : Nat) (hj : j < 64) : w'.cell? ⟨gb, j, none⟩ = some (bvI (B[j]?.getD 0)) := by
  rw [h.bb.cell, List.getElem?_toArray, List.getElem?_map, List.getElem?_eq_getElem (by omega)]
  rfl
theorem Two.cell0 {w w' : World} {gs gb : Nat} {s : St8} {B : List UInt8} (h : Two w w' gs gb s B) (hB : B.length = 64) (j : Nat) (hj : j < 64) : w'.cell? ⟨gb, 0 + j, none⟩ = some (bvI (B[j]?.getD 0)) := by
  rw [Nat.zero_add]; exact h.cell hB j hj
theorem run_clearB {w w' : World} {gs gb : Nat} {s : St8} {B : List UInt8} (h : Two w w' gs gb s B) (hB : B.length = 64) (o n c : Nat) (hn : 0 < n) (ho : o + n ≤ 64) (ty : TypeId) :
    (Builtin.clear_ #[79] ty #[.slice (some ⟨gb, o, none⟩) n c]).run Tryd.prog w' = .ok (.tuple #[]) (w'.setCells gb o (List.replicate n (.int .u8 0))) :=
  Lib.run_clear_slice w' 79 5 ty (.int .u8 0) Tryd.underlying79 zvU8 rfl rfl gb o n c hn (fun j hj => by rw [h.cell hB (o + j) (by omega)]; rfl) (fun _ _ => h.bb.frozen _)
theorem run_clearN (w : World) (A : Option Addr) (c : Nat) (ty : TypeId) : (Builtin.clear_ #[79] ty #[.slice A 0 c]).run Tryd.prog w = .ok (.tuple #[]) w := by
  cases A <;> simp [Builtin.clear_, run_underlying Tryd.underlying79]

theorem there_new {w : World} {g : Nat} {t : TypeId} {cs : Array Value} (h : Blk w g t cs) {n : Nat} (hn : cs.size = n) : w.there g 0 n := fun j hj => by
  rw [Nat.zero_add, h.cell, h.frozen]
  rw [Array.getElem?_eq_getElem (by omega)]
  exact ⟨rfl, rfl⟩
theorem cell_alloc_store {w : World} {g x : Nat} {o1 o2 : Obj} {RV : List Value} {i : Nat} {v : Value} (h : w.cell? ⟨g, i, none⟩ = some v) (hx : w.heap.size ≤ x) : (((w.alloc o1).alloc o2).drew.setCells x 0 RV).cell? ⟨g, i, none⟩ = some v := by
  rw [World.cell?_setCells_out _ _ _ _ _ (fun hb _ => absurd hb (by have := World.block_lt_of_cell? w _ h; simp only at this ⊢; omega))]
  exact Lib.cell?_alloc_some _ (Lib.cell?_alloc_some _ h)
theorem range_alloc_store {w : World} {g x o : Nat} {o1 o2 : Obj} {RV CV : List Value} (h : w.rangeAt g o CV) (hx : w.heap.size ≤ x) : (((w.alloc o1).alloc o2).drew.setCells x 0 RV).rangeAt g o CV := fun j v hv => cell_alloc_store (h j v hv) hx
theorem size_alloc_store {w : World} {g x : Nat} {o1 o2 : Obj} {RV : List Value} (h : g < w.heap.size) : g < (((w.alloc o1).alloc o2).drew.setCells x 0 RV).heap.size := by
  have := (Fr.setCells (T := fun _ => True) (a := w) (g := x) (fun _ => trivial) RV 0 _ ((((Fr.refl _ w).alloc o1).alloc o2).drew)).size
  omega
theorem two_ways {w : World} (s : St8) (B : List UInt8) (hB : B.length = 64) (cz : Array Value) (hz : cz.size = 64) :
    Two w (((w.alloc (.cells (stV s).toArray 97)).alloc (.cells cz 129)).drew.setCells (w.heap.size + 1) 0 (B.map bvI)) w.heap.size (w.heap.size + 1) s B ∧
    Two w (((w.alloc (.cells cz 129)).alloc (.cells (stV s).toArray 97)).drew.setCells w.heap.size 0 (B.map bvI)) (w.heap.size + 1) w.heap.size s B := by
  have e : ∀ o : Obj, (w.alloc o).heap.size = w.heap.size + 1 := fun o => by simp
  have hl : (B.map bvI).length = 64 := by rw [List.length_map, hB]
  refine ⟨⟨?_, ?_, ?_, Nat.le_refl _, by omega⟩, ⟨?_, ?_, ?_, by omega, Nat.le_refl _⟩⟩
  · exact Fr.setCells (fun h => absurd h (by omega)) _ _ _ ((((Fr.refl _ w).alloc _).alloc _).drew)
  · exact (((Blk.new w _ _).alloc _).drew).fr (Fr.setCells (T := fun k => k = w.heap.size + 1) (fun _ => rfl) _ _ _ (Fr.refl _ _)) (by omega)
  · have b0 : Blk ((w.alloc (.cells (stV s).toArray 97)).alloc (.cells cz 129)).drew (w.heap.size + 1) 129 cz.toList.toArray := by
      have := Blk.new (w.alloc (.cells (stV s).toArray 97)) 129 cz
      rw [e] at this
      simpa using this.drew
    have := Blk.setCells (B.map bvI) 0 _ _ b0 (by simp [hl, hz])
    rw [Nat.zero_add, List.drop_of_length_le (by simp [hl, hz]), List.take_zero, List.nil_append, List.append_nil] at this
    exact this
  · exact Fr.setCells (fun h => absurd h (by omega)) _ _ _ ((((Fr.refl _ w).alloc _).alloc _).drew)
  · have b0 : Blk ((w.alloc (.cells cz 129)).alloc (.cells (stV s).toArray 97)).drew (w.heap.size + 1) 97 (stV s).toArray := by
      have := Blk.new (w.alloc (.cells cz 129)) 97 (stV s).toArray
      rw [e] at this
      exact this.drew
    exact b0.fr (Fr.setCells (T := fun k => k = w.heap.size) (fun _ => rfl) _ _ _ (Fr.refl _ _)) (by omega)
  · have b0 : Blk ((w.alloc (.cells cz 129)).alloc (.cells (stV s).toArray 97)).drew w.heap.size 129 cz.toList.toArray := by
      have := (Blk.new w 129 cz).alloc (.cells (stV s).toArray 97)
      simpa using this.drew
    have := Blk.setCells (B.map bvI) 0 _ _ b0 (by simp [hl, hz])
    rw [Nat.zero_add, List.drop_of_length_le (by simp [hl, hz]), List.take_zero, List.nil_append, List.append_nil] at this
    exact this
end Go.Proofs.YtkaghbpdnmigmaaDoor
