/- Digests compared. -/
import Derived.Test.YtpnchdgplpdefaaGreatDoorEnShaI
import Derived.Test.YtpnchdgplpdefaaGreatDoorEnShaH
import Derived.ChangeKeysEq
namespace Go.Proofs.YtpnchdgplpdefaaGreatDoor
open Go.RowKit
theorem run_items (w : World) (d : Nat) (l r : List UInt8) (hl : l.length = 32) (hr : r.length = 32) : ∀ is : List Nat, (∀ i ∈ is, i < 32) →
  (Op.eqItems (d + 1) 5 1 (l.map bvI).toArray (r.map bvI).toArray is).run Tryz.prog w = .ok (is.all fun i => l[i]? == r[i]?) w
 | [], _ => by simp [Op.eqItems]
 | i :: is, h => by
  have hi : i < 32 := h i (by simp)
  have ha : (isAgg 5).run Tryz.prog w = .ok false w := by kernel_rfl
  have p : ∀ x : List UInt8, x.length = 32 → (part 5 (x.map bvI).toArray (i * 1)).run Tryz.prog w = .ok (bvI (x[i]?.getD 0)) w := by
   intro x hx
   unfold part
   rw [Sem.run_bind, ha]
   simp only [Result.andThen_ok, Bool.false_eq_true, if_false, Nat.mul_one, List.getElem?_toArray, List.getElem?_map, List.getElem?_eq_getElem (show i < x.length by omega), Option.map_some, Sem.run_pure, Option.getD_some]
  have ih := run_items w d l r hl hr is (fun j hj => h j (by simp [hj]))
  have e : ((((l[i]?.getD 0).toNat : Nat) : Int) == (((r[i]?.getD 0).toNat : Nat) : Int)) = (l[i]? == r[i]?) := by
   rw [List.getElem?_eq_getElem (show i < l.length by omega), List.getElem?_eq_getElem (show i < r.length by omega), Bool.eq_iff_iff]
   simp [← UInt8.toNat_inj]
   omega
  have q : (Op.equalIn (d + 1) 5 (bvI (l[i]?.getD 0)) (bvI (r[i]?.getD 0))).run Tryz.prog w = .ok (l[i]? == r[i]?) w := by
   rw [← e]
   exact run_equalIn_int w d 5 .u8 .u8 _ _ Tryz.underlying5
  simp only [Op.eqItems, Sem.run_bind, p l hl, p r hr, q, Result.andThen_ok, List.all_cons]
  cases hq : (l[i]? == r[i]?)
  ·simp
  ·simpa using ih
theorem all_same (l r : List UInt8) (hl : l.length = 32) (hr : r.length = 32) : ((List.range 32).all fun i => l[i]? == r[i]?) = decide (l = r) := by
 rw [Bool.eq_iff_iff]
 simp only [List.all_eq_true, List.mem_range, beq_iff_eq, decide_eq_true_eq]
 constructor
 ·intro h
  apply List.ext_getElem?
  intro i
  rcases Nat.lt_or_ge i 32 with hi | hi
  ·exact h i hi
  ·rw [List.getElem?_eq_none (by omega), List.getElem?_eq_none (by omega)]
 ·rintro rfl _ _
  rfl
theorem infoU8 : (Tryz.prog.info? 5).isSome = true := by kernel_rfl
theorem cellsU8 : Tryz.prog.cellsOf 5 = 1 := by kernel_rfl
theorem run_equal_row (w : World) (t : TypeId) (hu : Tryz.prog.underlying t = some (.array 32 5)) (l r : List UInt8) (hl : l.length = 32) (hr : r.length = 32) :
  (Op.equalIn 10000 t (digV l) (digV r)).run Tryz.prog w = .ok (decide (l = r)) w := by
 obtain ⟨i, hi⟩ := Option.isSome_iff_exists.1 infoU8
 unfold digV
 rw [run_equalIn_array w 9999 _ _ hu hi, cellsU8, run_items w 9998 l r hl hr _ (fun i hi => List.mem_range.1 hi), all_same l r hl hr]
theorem run_eqD (w : World) (t : TypeId) (hu : Tryz.prog.underlying t = some (.array 32 5)) (l r : List UInt8) (hl : l.length = 32) (hr : r.length = 32) :
  (binOp .eql t (digV l) (digV r)).run Tryz.prog w = .ok (.bool (decide (l = r))) w := by
 have := run_equal_row w t hu l r hl hr
 unfold digV at *
 rw [run_eql_struct, this]
 rfl
end Go.Proofs.YtpnchdgplpdefaaGreatDoor
