/- The reference's Tagged, and its Leaf, Empty, Pair and Node. -/
import Derived.Test.YtkaghbpdnmigmaaDoorShaH
import Derived.Test.YtkaghbpdnmigmaaDoorGwC
namespace Go.Proofs.YtkaghbpdnmigmaaDoor
open Go.RowKit

def digV (l : List UInt8) : Value := .agg (l.map bvI).toArray

set_option maxRecDepth 100000 in
set_option maxHeartbeats 1000000 in
theorem refTagged_any (tag : UInt8) (ps : List ByteArray) (A : Option Addr) (n c : Nat) (S : Nat → Prop) (w : World) (hR : Rd w S 1 A n (ps.map strCell)) (hn : n ≤ 255) (hL : ∀ k, (JoinK tag ps k).length ≤ 1099511627776) (h4 : ∀ p ∈ ps, p.size < 4294967296) :
    Calls Tryd.prog 46 #[bvI tag, .slice A n c] w (Same' w (digV (shaL (joinL tag (ps.map txL))))) := by
  have CJ := Lib.hid (fun w' (hf : Fr Nothing w w') => refJoin_any tag ps A n c S w' (hR.fr0 hf) hn hL h4)
  have HPL : ps.length = n := by have := hR.1; simpa using this
  have hsz : (joinL tag (ps.map txL)).length ≤ 1099511627776 := by
    rw [← JoinK_all tag ps n (by omega)]
    exact hL n
  have CS := Lib.hid (fun w' => refSum_any ⟨(joinL tag (ps.map txL)).toArray⟩ w' (by simp only [ByteArray.size, List.size_toArray]; exact hsz))
  have hs32 := shaL_length (joinL tag (ps.map txL))
  have et : txL ⟨(joinL tag (ps.map txL)).toArray⟩ = joinL tag (ps.map txL) := by simp [txL]
  rw [et] at CS
  unfold digV
  generalize (⟨(joinL tag (ps.map txL)).toArray⟩ : ByteArray) = RS at *
  generalize shaL (joinL tag (ps.map txL)) = DL at *
  have HS : Hid ((DL.map bvI).toArray.size = 32 ∧ (DL.map bvI).toArray.all (·.oneCell') = true) := ⟨by simp [hs32], bytes_one DL⟩
  have HI : Hid ((Tryd.prog.info? 23).map (·.size) = some (DL.map bvI).toArray.size) := by
    rw [HS.out.1]
    exact info32
  generalize (DL.map bvI).toArray = RA at *
  clear hR hn hL h4 HPL hsz hs32 et
  unfold bvI at *
  go_enter Tryd.func46, Tryd.ntmps46
  go_wp2_with (refine wpList_allocBlk rfl 23 rfl zero32 zv32 zero32c rfl ?_)
  intro w1 n1
  have N1 := Lib.hid n1
  clear n1
  go_wp2_with fail
  refine (CJ.out _ N1.out.fr).mono ?_
  rintro e w2 ⟨rfl, f2⟩
  have F2 := Lib.hid f2
  clear f2 CJ
  go_wp2_with fail
  refine (CS.out _).mono ?_
  rintro e w3 ⟨rfl, f3⟩
  have B3 := Lib.hid (N1.out.blk.fr (F2.out.trans f3) (fun x => x))
  have F3 : Hid (Fr Nothing w w3) := N1.out.fr.trans (F2.out.trans f3)
  clear f3 CS F2 N1
  go_wp2_with (refine wpList_storeBlk rfl 23 (.tmp 4) _ rfl w.heap.size RA rfl rfl _ _ B3.out HI.out (by rw [HS.out.1]; rfl) HS.out.2 ?_)
  intro wz b4 f4
  have J4 := Lib.hid b4
  have JF : Hid (Fr Nothing w wz) := F3.out.then_ f4 (fun i hi e => by have e' : i = w.heap.size := e; omega)
  clear b4 f4
  go_wp2
  exact bodyPost_ret (results_cell_row (fn := Tryd.f46) (p := 4) (ty := 23) Tryd.results46 _ wz _ 23 RA (0, 0) _ rfl J4.out Tryd.underlying23 rfl HI.out) rfl ⟨rfl, JF.out⟩
end Go.Proofs.YtkaghbpdnmigmaaDoor
