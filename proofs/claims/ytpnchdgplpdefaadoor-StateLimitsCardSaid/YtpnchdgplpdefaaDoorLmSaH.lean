/- State: the laws' To: written by genSaH.py. -/
import Derived.Test.YtpnchdgplpdefaaDoorLmSaG
namespace Go.Proofs.YtpnchdgplpdefaaDoor
open Go.RowKit
def zeroC : Value := .agg #[.int .i64 0, .string ByteArray.empty, .int .i64 0, .int .i64 0, .string ByteArray.empty, .string ByteArray.empty, .bool false]
theorem zinfoCh : (Tryd.prog.info? 38).map (fun i => (i.zero, i.size, i.bytes)) = some (some zeroC, 7, 80) := by kernel_rfl
theorem foldl_set : ∀ (l : List Value) (k off : Nat) (b : List Value), off + k + l.length ≤ b.length → (l.zipIdx k).foldl (fun cs x => cs.setIfInBounds (off + x.2) x.1) b.toArray = (b.take (off + k) ++ l ++ b.drop (off + k + l.length)).toArray
 | [], k, off, b, _ => by simp
 | c :: r, k, off, b, h => by
  simp only [List.length_cons] at h
  rw [List.zipIdx_cons, List.foldl_cons, List.setIfInBounds_toArray, foldl_set r (k + 1) off (b.set (off + k) c) (by rw [List.length_set]; omega)]
  congr 1
  have e1 : (b.set (off + k) c).take (off + (k + 1)) = b.take (off + k) ++ [c] := by
   rw [List.take_set, show off + (k + 1) = (off + k) + 1 by omega, List.take_succ_eq_append_getElem (by omega : off + k < b.length), List.set_append_right _ _ (by simp; omega)]
   simp
   rw [show off + k - min (off + k) b.length = 0 by omega]
   rfl
  have e2 : (b.set (off + k) c).drop (off + (k + 1) + r.length) = b.drop (off + k + (c :: r).length) := by
   rw [List.drop_set_of_lt (by omega)]
   congr 1
   simp only [List.length_cons]; omega
  rw [e1, e2]
  simp
theorem fold_arr (cs b : Array Value) (off : Nat) (h : off + cs.size ≤ b.size) : cs.zipIdx.foldl (fun cs (x : Value × Nat) => cs.setIfInBounds (off + x.2) x.1) b = (b.toList.take off ++ cs.toList ++ b.toList.drop (off + cs.size)).toArray := by
 rw [← Array.foldl_toList, Array.toList_zipIdx]
 have := foldl_set cs.toList 0 off b.toList (by simpa using h)
 simpa using this
theorem fill_seven (cs b : Array Value) (hc : cs.size = 7) (hb : b.size = 7) : Instr.fill (fun i => some (i * 7, 7)) b [(0, .agg cs)] = some cs := by
 have hf := fold_arr cs b 0 (by omega)
 simp only [Instr.fill, Value.cells, hc, hb, Nat.zero_mul, Nat.zero_add, ne_eq, not_true_eq_false, decide_false, Bool.false_or, gt_iff_lt, Nat.lt_irrefl, Bool.false_eq_true, if_false]
 simp only [Nat.zero_add, List.take_zero, List.nil_append, hc] at hf
 rw [List.drop_of_length_le (by simp [hb]), List.append_nil] at hf
 rw [hf]
theorem own_lt {w : World} {base n k : Nat} {e : TypeId} {size : Nat} {v : Value} {xs : List Value} (h : w.ownsRow base e size v n xs) (hk : v.ownBlock = some k) : k < w.heap.size := by
 rcases h.2 with ⟨rfl, _⟩ | ⟨g, cap, cur, rfl, _, hb, _⟩
 ·cases hk
 ·simp only [Value.ownBlock, Option.some.injEq] at hk
  subst hk
  exact (Array.getElem?_eq_some_iff.1 hb).1
theorem Fr.grown0 {w w' : World} (h : Fr Nothing w w') : w.grownBy w' none := ⟨h.os, h.tape, h.output, h.size, fun k hk _ => h.block k hk (fun x => x)⟩
def TrueNew (w : World) (e : Ending) (w' : World) : Prop := e = .returned (.bool true) ∧ Fr Nothing w w'
end Go.Proofs.YtpnchdgplpdefaaDoor
