/- sha256.Sum and sha256.Tagged. -/
import Derived.Test.YtkaghbpdnmigmaaDoorShaI
import Derived.Test.YtkaghbpdnmigmaaDoorShaT
import Derived.Test.YtkaghbpdnmigmaaDoorGwC
namespace Go.Proofs.YtkaghbpdnmigmaaDoor
open Go.RowKit

def zeroS : St8 := ⟨0, 0, 0, 0, 0, 0, 0, 0⟩
def zeroHc : Array Value := (hashV 0 zeroS (List.replicate 64 0)).toArray
theorem zvH (w : World) : (zeroValue 131).run Tryd.prog w = .ok (.agg zeroHc) w := by kernel_rfl
theorem ShaTab.lt0 {w : World} (h : ShaTab w) : 0 < w.heap.size := World.block_lt_of_cell? w ⟨0, 0, none⟩ (h.init 0 _ rfl)
theorem ShaTab.lt1 {w : World} (h : ShaTab w) : 1 < w.heap.size := World.block_lt_of_cell? w ⟨1, 0, none⟩ (h.kk 0 (by omega))

theorem results_cell_slot {P : Program} {fn : Func} {p q : Tmp} {ty : TypeId} (h : fn.results = #[.cell p ty, .tmp q]) (tmps : Array Value) (w : World) (g : Nat) (t : TypeId) (cs : Array Value) (fr : Nat × Nat) (d : TypeDesc)
    (hp : tmps.getD p undef = .pointer (some ⟨g, 0, none⟩)) (hg : w.heap[g]? = some (.cells cs t fr))
    (hu : P.underlying ty = some d) (hd : (match d with | .struct _ | .array _ _ => true | _ => false) = true) (hi : (P.info? ty).map (·.size) = some cs.size) (v : Value) (hv : tmps.getD q undef = v) :
    (results fn tmps).run P w = .ok (.tuple #[.agg cs, v]) w := by
  have hp' : tmps[p]?.getD undef = .pointer (some ⟨g, 0, none⟩) := by simpa using hp
  have hv' : tmps[q]?.getD undef = v := by simpa using hv
  simp [results, h, hp', hv', asAddr, run_loadVar_row w g t ty cs fr d hg hu hd hi]

set_option maxRecDepth 100000 in
set_option maxHeartbeats 1000000 in
theorem Sum_any (s : ByteArray) (w : World) (hT : ShaTab w) (hs : s.size ≤ 1099511627776) (hs1 : 1 ≤ s.size) :
    Calls Tryd.prog 71 #[.string s] w (Same' w (digV (shaL (txL s)))) := by
  have HT := Lib.hid hT
  have HTL := Lib.hid (txL_length s)
  have CW := Lib.hid (fun g w' (b : Blk w' g 131 (hashV 0 zeroS (List.replicate 64 0)).toArray) t h0 h1 => Write_new s g zeroS (List.replicate 64 0) (List.length_replicate ..) w' b t h0 h1 hs hs1)
  have CS := Lib.hid (fun g rest w' (h : HashAt w' g (txL s) rest) t => HSum_any g (txL s) rest w' h t (by rw [txL_length]; exact hs) (by rw [txL_length]; exact hs1))
  have hs32 := shaL_length (txL s)
  unfold digV
  generalize shaL (txL s) = DL at *
  have HS : Hid ((DL.map bvI).toArray.size = 32 ∧ (DL.map bvI).toArray.all (·.oneCell') = true) := ⟨by simp [hs32], bytes_one DL⟩
  have HI : Hid ((Tryd.prog.info? 24).map (·.size) = some (DL.map bvI).toArray.size) := by
    rw [HS.out.1]
    exact infoD
  generalize (DL.map bvI).toArray = RA at *
  clear hT hs32
  go_enter Tryd.func71, Tryd.ntmps71
  go_wp2_with (refine wpList_allocBlk rfl 24 rfl zero32 zvD zero32c rfl ?_)
  intro w1 n1
  have N1 := Lib.hid n1
  clear n1
  go_wp2_with (refine wpList_allocBlk rfl 131 rfl (.agg zeroHc) zvH zeroHc rfl ?_)
  intro w2 n2
  have N2 := Lib.hid n2
  have T2 := Lib.hid (HT.out.fr0 (N1.out.fr.trans n2.fr))
  have HG : Hid (w.heap.size < w1.heap.size ∧ 0 < w.heap.size ∧ 1 < w.heap.size) := ⟨by have := N1.out.size; omega, HT.out.lt0, HT.out.lt1⟩
  have CW2 := Lib.hid (CW.out w1.heap.size w2 n2.blk T2.out (by have := HG.out; omega) (by have := HG.out; omega))
  clear n2 CW
  go_wp2_with fail
  refine CW2.out.mono ?_
  rintro e w3 ⟨rfl, f3, rest, hA⟩
  have T3 := Lib.hid (T2.out.fr f3 (fun e => by have e' : 0 = w1.heap.size := e; have := HG.out; omega) (fun e => by have e' : 1 = w1.heap.size := e; have := HG.out; omega))
  have CS3 := Lib.hid (CS.out _ _ _ hA T3.out)
  have B3 := Lib.hid ((N1.out.blk.fr N2.out.fr (fun x => x)).fr f3 (fun e => by have e' : w.heap.size = w1.heap.size := e; have := HG.out; omega))
  have F3 : Hid (Fr Nothing w w3) := (N1.out.fr.trans N2.out.fr).then_ f3 (fun i hi e => by have e' : i = w1.heap.size := e; have := HG.out; omega)
  clear f3 hA CS CW2
  go_wp2_with fail
  refine CS3.out.mono ?_
  rintro e w4 ⟨rfl, f4⟩
  have B4 := Lib.hid (B3.out.fr f4 (fun x => x))
  have F4 := Lib.hid (F3.out.trans f4)
  clear f4 CS3 B3 F3
  go_wp2_with (refine wpList_storeBlk rfl 24 (.tmp 2) _ rfl w.heap.size RA rfl rfl _ _ B4.out HI.out (by rw [HS.out.1]; rfl) HS.out.2 ?_)
  intro wz b5 f5
  have J4 := Lib.hid b5
  have JF : Hid (Fr Nothing w wz) := F4.out.then_ f5 (fun i hi e => by have e' : i = w.heap.size := e; omega)
  clear b5 f5
  go_wp2
  exact bodyPost_ret (results_cell_row (fn := Tryd.f71) (p := 2) (ty := 24) Tryd.results71 _ wz _ 24 RA (0, 0) _ rfl J4.out Tryd.underlying24 rfl HI.out) rfl ⟨rfl, JF.out⟩

set_option maxRecDepth 100000 in
set_option maxHeartbeats 1000000 in
theorem Tagged_any (tag : UInt8) (ps : List ByteArray) (A : Option Addr) (n c : Nat) (S : Nat → Prop) (w : World) (hT : ShaTab w) (hR : Rd w S 1 A n (ps.map strCell)) (hn : n ≤ 255) (hL : ∀ k, (JoinK tag ps k).length ≤ 1099511627776) (h4 : ∀ p ∈ ps, p.size < 4294967296) :
    Calls Tryd.prog 44 #[bvI tag, .slice A n c] w (Same' w (.tuple #[digV (shaL (joinL tag (ps.map txL))), .int .i64 0])) := by
  have CJ := Lib.hid (fun w' (hf : Fr Nothing w w') => Join_any tag ps A n c S w' (hR.fr0 hf) hn hL h4)
  have HPL : ps.length = n := by have := hR.1; simpa using this
  have hsz : (joinL tag (ps.map txL)).length ≤ 1099511627776 := by
    rw [← JoinK_all tag ps n (by omega)]
    exact hL n
  have hsz1 : 1 ≤ (joinL tag (ps.map txL)).length := by simp [joinL]
  have CS := Lib.hid (fun w' (hf : Fr Nothing w w') => Sum_any ⟨(joinL tag (ps.map txL)).toArray⟩ w' (hT.fr0 hf) (by simp only [ByteArray.size, List.size_toArray]; exact hsz) (by simp only [ByteArray.size, List.size_toArray]; exact hsz1))
  have hs32 := shaL_length (joinL tag (ps.map txL))
  have et : txL ⟨(joinL tag (ps.map txL)).toArray⟩ = joinL tag (ps.map txL) := by simp [txL]
  rw [et] at CS
  unfold digV at *
  generalize (⟨(joinL tag (ps.map txL)).toArray⟩ : ByteArray) = RS at *
  generalize shaL (joinL tag (ps.map txL)) = DL at *
  have HS : Hid ((DL.map bvI).toArray.size = 32 ∧ (DL.map bvI).toArray.all (·.oneCell') = true) := ⟨by simp [hs32], bytes_one DL⟩
  have HI : Hid ((Tryd.prog.info? 24).map (·.size) = some (DL.map bvI).toArray.size) := by
    rw [HS.out.1]
    exact infoD
  generalize (DL.map bvI).toArray = RA at *
  clear hR hn hL h4 HPL hsz hsz1 hs32 et hT
  unfold bvI at *
  go_enter Tryd.func44, Tryd.ntmps44
  go_wp2_with (refine wpList_allocBlk rfl 24 rfl zero32 zvD zero32c rfl ?_)
  intro w1 n1
  have N1 := Lib.hid n1
  clear n1
  go_wp2_with fail
  refine (CJ.out _ N1.out.fr).mono ?_
  rintro e w2 ⟨rfl, f2⟩
  have F2 : Hid (Fr Nothing w w2) := N1.out.fr.trans f2
  have B2 := Lib.hid (N1.out.blk.fr f2 (fun x => x))
  clear f2 CJ
  go_wp2_with fail
  refine (CS.out _ F2.out).mono ?_
  rintro e w3 ⟨rfl, f3⟩
  have B3 := Lib.hid (B2.out.fr f3 (fun x => x))
  have F3 : Hid (Fr Nothing w w3) := F2.out.trans f3
  clear f3 CS F2 N1
  go_wp2_with (refine wpList_storeBlk rfl 24 (.tmp 4) _ rfl w.heap.size RA rfl rfl _ _ B3.out HI.out (by rw [HS.out.1]; rfl) HS.out.2 ?_)
  intro wz b4 f4
  have J4 := Lib.hid b4
  have JF : Hid (Fr Nothing w wz) := F3.out.then_ f4 (fun i hi e => by have e' : i = w.heap.size := e; omega)
  clear b4 f4
  go_wp2
  exact bodyPost_ret (results_cell_slot (fn := Tryd.f44) (p := 4) (q := 5) (ty := 24) Tryd.results44 _ wz _ 24 RA (0, 0) _ rfl J4.out Tryd.underlying24 rfl HI.out _ rfl) rfl ⟨rfl, JF.out⟩
end Go.Proofs.YtkaghbpdnmigmaaDoor
