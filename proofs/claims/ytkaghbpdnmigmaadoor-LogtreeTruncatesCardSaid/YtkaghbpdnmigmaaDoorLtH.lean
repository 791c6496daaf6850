/- logtree.Root. -/
import Derived.Test.YtkaghbpdnmigmaaDoorLtG
namespace Go.Proofs.YtkaghbpdnmigmaaDoor
open Go.RowKit

/-- The root of any list. -/
def rootE (ds : List (List UInt8)) : List UInt8 := if ds = [] then emptyD else rootL ds

set_option maxRecDepth 100000 in
set_option maxHeartbeats 1000000 in
theorem Root_any (n : Nat) (ds : List (List UInt8)) (A : Option Addr) (c : Nat) (S : Nat → Prop) (w : World) (hD : DigL w S A n ds) (hn : n ≤ 1048576) (hc : n ≤ c) (hcap : c ≤ 9223372036854775807) (hT : ShaTab w) :
    Calls Tryd.prog 13 #[.slice A n c] w (Same' w (.tuple #[digV (rootE ds), .int .i64 0])) := by
  have t1 : decide ((1048576 : Int) < (n : Int)) = false := decide_eq_false (by omega)
  have lE : (rootE ds).length = 32 := by
    unfold rootE
    split
    · exact emptyD_length
    · rename_i h
      have hl : 1 ≤ n := by
        rcases Nat.eq_zero_or_pos n with h0 | h0
        · exact absurd (List.eq_nil_of_length_eq_zero (hD.len.trans h0)) h
        · exact h0
      exact rootL_length n ds hD.len hl (by omega) hD.each
  have HD := Lib.hid (Dig.of lE)
  have CA : Hid (n = 0 → ∀ w', Fr Nothing w w' → Calls Tryd.prog 19 #[] w' (Same' w' (digV (rootE ds)))) := by
    intro h0 w' hf
    have : ds = [] := List.eq_nil_of_length_eq_zero (hD.len.trans h0)
    rw [rootE, if_pos this]
    exact Empty_any w' (hT.fr0 hf)
  have CB : Hid (n ≠ 0 → ∀ w', Fr Nothing w w' → Calls Tryd.prog 45 #[.slice A n c] w' (Same' w' (digV (rootE ds)))) := by
    intro h0 w' hf
    have : ds ≠ [] := fun h => h0 (by rw [← hD.len, h]; rfl)
    rw [rootE, if_neg this]
    exact rootOf_any n ds A c S w' (hD.fr0 hf) (by omega) (by omega) hc hcap (hT.fr0 hf)
  unfold digV at *
  generalize ((rootE ds).map bvI).toArray = RA at *
  clear hD hT lE
  by_cases h0 : n = 0
  · have t2 : ((n : Int) == 0) = true := by rw [beq_iff_eq]; omega
    have CC := Lib.hid (CA.out h0)
    clear CA CB h0
    go_enter Tryd.func13, Tryd.ntmps13
    go_wp2_with (refine wpList_allocBlk rfl 24 rfl zero32 zvD zero32c rfl ?_)
    intro w1 n1
    have N1 := Lib.hid n1
    clear n1
    go_wp2_with fail
    refine (CC.out _ N1.out.fr).mono ?_
    rintro e w2 ⟨rfl, f2⟩
    have F2 := Lib.hid (N1.out.fr.trans f2)
    have B2 := Lib.hid (N1.out.blk.fr f2 (fun x => x))
    clear f2 N1 CC
    go_wp2_with (refine wpList_storeBlk rfl 24 (.tmp 2) _ rfl w.heap.size RA rfl rfl _ _ B2.out HD.out.info HD.out.zero HD.out.one ?_)
    intro wz b5 f5
    have J4 := Lib.hid b5
    have JF : Hid (Fr Nothing w wz) := F2.out.then_ f5 (fun i hi e => by have e' : i = w.heap.size := e; omega)
    clear b5 f5
    go_wp2
    exact bodyPost_ret (results_cell_slot (fn := Tryd.f13) (p := 2) (q := 3) (ty := 24) Tryd.results13 _ wz _ 24 RA (0, 0) _ rfl J4.out Tryd.underlying24 rfl HD.out.info _ rfl) rfl ⟨rfl, JF.out⟩
  · have t2 : ((n : Int) == 0) = false := by rw [beq_eq_false_iff_ne]; omega
    have CC := Lib.hid (CB.out h0)
    clear CA CB h0
    go_enter Tryd.func13, Tryd.ntmps13
    go_wp2_with (refine wpList_allocBlk rfl 24 rfl zero32 zvD zero32c rfl ?_)
    intro w1 n1
    have N1 := Lib.hid n1
    clear n1
    go_wp2_with fail
    refine (CC.out _ N1.out.fr).mono ?_
    rintro e w2 ⟨rfl, f2⟩
    have F2 := Lib.hid (N1.out.fr.trans f2)
    have B2 := Lib.hid (N1.out.blk.fr f2 (fun x => x))
    clear f2 N1 CC
    go_wp2_with (refine wpList_storeBlk rfl 24 (.tmp 2) _ rfl w.heap.size RA rfl rfl _ _ B2.out HD.out.info HD.out.zero HD.out.one ?_)
    intro wz b5 f5
    have J4 := Lib.hid b5
    have JF : Hid (Fr Nothing w wz) := F2.out.then_ f5 (fun i hi e => by have e' : i = w.heap.size := e; omega)
    clear b5 f5
    go_wp2
    exact bodyPost_ret (results_cell_slot (fn := Tryd.f13) (p := 2) (q := 3) (ty := 24) Tryd.results13 _ wz _ 24 RA (0, 0) _ rfl J4.out Tryd.underlying24 rfl HD.out.info _ rfl) rfl ⟨rfl, JF.out⟩

end Go.Proofs.YtkaghbpdnmigmaaDoor
