/- The reference's Pad. -/
import Derived.Test.YtpnchdgplpdefaaGreatDoorEnShaC
import Derived.Test.YtpnchdgplpdefaaGreatDoorEnGwA
import Derived.Test.YtpnchdgplpdefaaGreatDoorEnShaB
namespace Go.Proofs.YtpnchdgplpdefaaGreatDoor
open Go.RowKit
theorem turn_q (n x : Nat) (w : World) (h1 : 1 ≤ n) (h2 : n ≤ 31) (hx : x < 4294967296) :
  Calls Tryz.prog 95 #[.int .i64 n, .int .u32 x] w fun e w' => e = .returned (.int .u32 (rotr n x : Nat)) ∧ ∃ m, w' = w.drewN m := turn_any n x w h1 h2 hx
theorem turn6 (x : Nat) (w : World) (hx : x < 4294967296) : Calls Tryz.prog 95 #[.int .i64 6, .int .u32 x] w fun e w' => e = .returned (.int .u32 (rotr 6 x : Nat)) ∧ ∃ m, w' = w.drewN m := turn_q 6 x w (by omega) (by omega) hx
theorem turn11 (x : Nat) (w : World) (hx : x < 4294967296) : Calls Tryz.prog 95 #[.int .i64 11, .int .u32 x] w fun e w' => e = .returned (.int .u32 (rotr 11 x : Nat)) ∧ ∃ m, w' = w.drewN m := turn_q 11 x w (by omega) (by omega) hx
theorem turn25 (x : Nat) (w : World) (hx : x < 4294967296) : Calls Tryz.prog 95 #[.int .i64 25, .int .u32 x] w fun e w' => e = .returned (.int .u32 (rotr 25 x : Nat)) ∧ ∃ m, w' = w.drewN m := turn_q 25 x w (by omega) (by omega) hx
theorem turn2 (x : Nat) (w : World) (hx : x < 4294967296) : Calls Tryz.prog 95 #[.int .i64 2, .int .u32 x] w fun e w' => e = .returned (.int .u32 (rotr 2 x : Nat)) ∧ ∃ m, w' = w.drewN m := turn_q 2 x w (by omega) (by omega) hx
theorem turn13 (x : Nat) (w : World) (hx : x < 4294967296) : Calls Tryz.prog 95 #[.int .i64 13, .int .u32 x] w fun e w' => e = .returned (.int .u32 (rotr 13 x : Nat)) ∧ ∃ m, w' = w.drewN m := turn_q 13 x w (by omega) (by omega) hx
theorem turn22 (x : Nat) (w : World) (hx : x < 4294967296) : Calls Tryz.prog 95 #[.int .i64 22, .int .u32 x] w fun e w' => e = .returned (.int .u32 (rotr 22 x : Nat)) ∧ ∃ m, w' = w.drewN m := turn_q 22 x w (by omega) (by omega) hx
def zero8c : Array Value := #[.int .u32 0, .int .u32 0, .int .u32 0, .int .u32 0, .int .u32 0, .int .u32 0, .int .u32 0, .int .u32 0]
def zero64c : Array Value := Array.replicate 64 (.int .u32 0)
def zero8 : Value := .agg zero8c
def zero64 : Value := .agg zero64c
theorem zv8 (w : World) : (zeroValue 129).run Tryz.prog w = .ok zero8 w := by kernel_rfl
theorem zv64 (w : World) : (zeroValue 155).run Tryz.prog w = .ok zero64 w := by kernel_rfl
theorem info8 : (Tryz.prog.info? 129).map (·.size) = some 8 := by kernel_rfl
theorem stV_one (s : St8) : (stV s).toArray.all (·.oneCell') = true := by
 rw [Array.all_eq_true_iff_forall_mem]
 intro v hv
 simp only [stV, List.mem_toArray, List.mem_cons, List.not_mem_nil, or_false] at hv
 rcases hv with rfl | rfl | rfl | rfl | rfl | rfl | rfl | rfl <;> rfl
theorem stV_size (s : St8) : (stV s).toArray.size = 8 := rfl
theorem words_one (l : List Nat) : (l.map u32v).toArray.all (·.oneCell') = true := by
 rw [Array.all_eq_true_iff_forall_mem]
 intro v hv
 simp only [List.mem_toArray, List.mem_map] at hv
 obtain ⟨x, _, rfl⟩ := hv
 rfl
theorem words_at (l : List Nat) (k : Nat) (h : k < l.length) : (l.map u32v).toArray[k]? = some (.int .u32 (l[k]?.getD 0)) := by
 simp [u32v, h]
theorem st_cells0 {w : World} {g : Nat} {t : TypeId} {s : St8} (h : Blk w g t (stV s).toArray) :
  w.cell? ⟨g, 0, none⟩ = some (.int .u32 s.a) ∧ w.cell? ⟨g, 1, none⟩ = some (.int .u32 s.b) ∧ w.cell? ⟨g, 2, none⟩ = some (.int .u32 s.c) ∧ w.cell? ⟨g, 3, none⟩ = some (.int .u32 s.d) ∧
  w.cell? ⟨g, 4, none⟩ = some (.int .u32 s.e) ∧ w.cell? ⟨g, 5, none⟩ = some (.int .u32 s.f) ∧ w.cell? ⟨g, 6, none⟩ = some (.int .u32 s.g) ∧ w.cell? ⟨g, 7, none⟩ = some (.int .u32 s.h) :=
 ⟨h.cell 0, h.cell 1, h.cell 2, h.cell 3, h.cell 4, h.cell 5, h.cell 6, h.cell 7⟩
theorem roundP_steps' (R : St8) (hR : R.ok) (k w : Nat) : ∃ x1 x2 a1 y1 y2 y3 y4 a2 a3 : Nat,
  bits .xor .u32 ((rotr 6 R.e : Nat) : Int) ((rotr 11 R.e : Nat) : Int) = (x1 : Int) ∧ bits .xor .u32 (x1 : Int) ((rotr 25 R.e : Nat) : Int) = (x2 : Int) ∧ IntKind.u32.wrap ((R.h : Int) + (x2 : Int)) = (a1 : Int) ∧
  bits .and .u32 (R.e : Int) (R.f : Int) = (y1 : Int) ∧ bits .xor .u32 4294967295 (R.e : Int) = (y2 : Int) ∧ bits .and .u32 (y2 : Int) (R.g : Int) = (y3 : Int) ∧ bits .xor .u32 (y1 : Int) (y3 : Int) = (y4 : Int) ∧
  IntKind.u32.wrap ((a1 : Int) + (y4 : Int)) = (a2 : Int) ∧ IntKind.u32.wrap ((a2 : Int) + (k : Int)) = (a3 : Int) ∧ IntKind.u32.wrap ((a3 : Int) + (w : Int)) = ((roundP R k w : Nat) : Int) := roundP_steps R hR k w
theorem mix_cell {w : World} {g : Nat} {t : TypeId} {s V : St8} {k : Nat} (h : Blk w g t ([] ++ stV (mixS s V k) ++ []).toArray) (hk : k < 8) : w.cell? ⟨g, k, none⟩ = some (.int .u32 (vAt s k)) := by
 have := (h.mid (os := 0) rfl (j := k) (by simpa [stV] using hk)).trans (mix_at s V k hk)
 rw [Nat.zero_add] at this
 exact this
theorem mix_put {w : World} {g : Nat} {t : TypeId} {s V : St8} {k : Nat} (h : Blk w g t ([] ++ stV (mixS s V k) ++ []).toArray) (hk : k < 8) : Blk (w.setCell ⟨g, k, none⟩ (.int .u32 ((add32 (vAt s k) (vAt V k) : Nat) : Int))) g t ([] ++ stV (mixS s V (k + 1)) ++ []).toArray := by
 have := h.set_mid (os := 0) rfl (j := k) (by simpa [stV] using hk) (.int .u32 ((add32 (vAt s k) (vAt V k) : Nat) : Int))
 rw [mix_set s V k hk, Nat.zero_add] at this
 exact this
theorem st_at {w : World} {g : Nat} {t : TypeId} {V : St8} {k : Nat} (h : Blk w g t (stV V).toArray) (hk : k < 8) : w.cell? ⟨g, k, none⟩ = some (.int .u32 (vAt V k)) := by
 rw [h.cell]
 rcases below8 hk with rfl | rfl | rfl | rfl | rfl | rfl | rfl | rfl <;> rfl
theorem kTab_length : kTab.length = 64 := rfl
set_option maxRecDepth 100000 in
set_option maxHeartbeats 2000000 in
theorem block_any (s : St8) (hs : s.ok) (bb ob c : Nat) (b : List UInt8) (w : World) (hB : ∀ j, j < 64 → w.cell? ⟨bb, ob + j, none⟩ = some (bvI (b[j]?.getD 0))) :
  Calls Tryz.prog 73 #[.agg (stV s).toArray, .slice (some ⟨bb, ob, none⟩) 64 c] w (Same' w (.agg (stV (blockS s b)).toArray)) := by
 have HB := Lib.hid hB
 clear hB
 generalize hres : (stV (blockS s b)).toArray = RES
 have HRES := Lib.hid hres
 clear hres
 go_enter Tryz.func73, Tryz.ntmps73
 go_wp2_with (refine wpList_boxBlk rfl 129 _ rfl (stV s).toArray rfl ?_)
 intro w1 n1
 have N1 := Lib.hid n1
 clear n1
 go_wp2_with (refine wpList_allocBlk rfl 129 rfl zero8 zv8 zero8c rfl ?_)
 intro w2 n2
 have N2 := Lib.hid n2
 have F2 : Hid (Fr Nothing w w2) := N1.out.fr.trans n2.fr
 have B2 := Lib.hid (N1.out.blk.fr n2.fr (fun x => x))
 have B4 := Lib.hid n2.blk
 have Z : Hid (w.heap.size < w1.heap.size ∧ w1.heap.size < w2.heap.size) := ⟨by have := N1.out.size; omega, by have := n2.size; omega⟩
 clear n2 N1 N2
 generalize hg2 : w.heap.size = g2 at *
 generalize w1.heap.size = g4 at *
 have CS := Lib.hid (schedule_any bb ob c b w2 (fun j hj => F2.out.cellSome (HB.out j hj) (fun x => x)))
 have HL := schedL_length b 64
 have HRW : Hid (RES = (stV (addS s (rounds (schedL b 64) s 64))).toArray) := by
  simp only [Hid]
  rw [← HRES.out, blockS_def]
 clear HRES
 generalize schedL b 64 = W at *
 have HWA : Hid ((W.map u32v).toArray.size = 64 ∧ (W.map u32v).toArray.all (·.oneCell') = true ∧ ∀ k, k < 64 → (W.map u32v).toArray[k]? = some (.int .u32 (W[k]?.getD 0))) := ⟨by simp [HL], words_one W, fun k hk => words_at W k (by omega)⟩
 clear HL
 generalize (W.map u32v).toArray = WA at *
 have CK := Lib.hid K_any
 have HKA : Hid ((kTab.map u32v).toArray.size = 64 ∧ (kTab.map u32v).toArray.all (·.oneCell') = true ∧ ∀ k, k < 64 → (kTab.map u32v).toArray[k]? = some (.int .u32 (kTab[k]?.getD 0))) := ⟨rfl, words_one kTab, fun k hk => words_at kTab k (by rw [kTab_length]; exact hk)⟩
 generalize (kTab.map u32v).toArray = KA at *
 go_wp2_with fail
 refine CS.out.mono ?_
 rintro e w3 ⟨rfl, f3⟩
 have F3 := Lib.hid f3
 clear f3 CS
 go_wp2_with fail
 refine (CK.out _).mono ?_
 rintro e w4 ⟨rfl, f4⟩
 have F4 : Hid (Fr Nothing w2 w4) := F3.out.trans f4
 clear f4 CK F3
 go_wp2_with (refine wpList_allocBlk rfl 155 rfl zero64 zv64 zero64c rfl ?_)
 intro w5 n5
 have N5 := Lib.hid n5
 clear n5
 go_wp2_with (refine wpList_allocBlk rfl 155 rfl zero64 zv64 zero64c rfl ?_)
 intro w6 n6
 have B5 := Lib.hid (N5.out.blk.fr n6.fr (fun x => x))
 have B6 := Lib.hid n6.blk
 have F6 : Hid (Fr Nothing w2 w6) := (F4.out.trans N5.out.fr).trans n6.fr
 have Z2 : Hid (w2.heap.size ≤ w4.heap.size ∧ w4.heap.size < w5.heap.size ∧ w5.heap.size < w6.heap.size) := ⟨F4.out.size, by have := N5.out.size; omega, by have := n6.size; omega⟩
 clear n6 N5 F4
 generalize w4.heap.size = g5 at *
 generalize w5.heap.size = g6 at *
 have I64 : Hid ((Tryz.prog.info? 155).map (·.size) = some WA.size ∧ (Tryz.prog.info? 155).map (·.size) = some KA.size) := by
  refine ⟨?_, ?_⟩
  ·rw [HWA.out.1]; exact info64
  ·rw [HKA.out.1]; exact info64
 have ZS : Hid (zero64c.size = WA.size ∧ zero64c.size = KA.size) := ⟨by rw [HWA.out.1]; rfl, by rw [HKA.out.1]; rfl⟩
 go_wp2_with (refine wpList_storeBlk rfl 155 (.tmp 5) _ rfl g5 WA rfl rfl _ _ B5.out I64.out.1 ZS.out.1 HWA.out.2.1 ?_)
 intro w7 b5 f7
 have C5 := Lib.hid b5
 have C6 := Lib.hid (B6.out.fr f7 (fun e => by have e' : g6 = g5 := e; have := Z2.out; omega))
 have F7 := Lib.hid f7
 clear b5 f7 B5 B6
 go_wp2_with (refine wpList_storeBlk rfl 155 (.tmp 6) _ rfl g6 KA rfl rfl _ _ C6.out I64.out.2 ZS.out.2 HKA.out.2.1 ?_)
 intro w8 b6 f8
 have D6 := Lib.hid b6
 have D5 := Lib.hid (C5.out.fr f8 (fun e => by have e' : g5 = g6 := e; have := Z2.out; omega))
 have F8 : Hid (Fr Nothing w w8) := by
  refine (((F2.out.trans F6.out).then_ F7.out (fun i hi e => ?_))).then_ f8 (fun i hi e => ?_)
  ·have e' : i = g5 := e; have := Z2.out; have := F2.out.size; omega
  ·have e' : i = g6 := e; have := Z2.out; have := F2.out.size; omega
 have D2 := Lib.hid (((B2.out.fr F6.out (fun x => x)).fr F7.out (fun e => by have e' : g2 = g5 := e; have := Z.out; have := Z2.out; omega)).fr f8 (fun e => by have e' : g2 = g6 := e; have := Z.out; have := Z2.out; omega))
 have D4 := Lib.hid (((B4.out.fr F6.out (fun x => x)).fr F7.out (fun e => by have e' : g4 = g5 := e; have := Z.out; have := Z2.out; omega)).fr f8 (fun e => by have e' : g4 = g6 := e; have := Z.out; have := Z2.out; omega))
 clear b6 f8 C5 C6 F7 F6 B2 B4 F2 I64 ZS
 go_wp2_with (first | (refine wpList_load_row rfl 129 (.tmp 2) rfl g2 rfl _ (stV s).toArray _ _ D2.out Tryz.underlying129 rfl info8 ?_) | (refine wpList_allocBlk rfl 129 rfl zero8 zv8 zero8c rfl ?_))
 intro w9 n9
 have N9 := Lib.hid n9
 clear n9
 go_wp2_with (refine wpList_storeBlk rfl 129 (.tmp 7) _ rfl w8.heap.size (stV s).toArray rfl rfl _ _ N9.out.blk info8 rfl (stV_one s) ?_)
 intro w10 b7 f10
 have E7 := Lib.hid b7
 have HNE : Hid (g2 < w8.heap.size ∧ g4 < w8.heap.size ∧ g5 < w8.heap.size ∧ g6 < w8.heap.size ∧ g2 < g4 ∧ w.heap.size ≤ g2) := ⟨D2.out.lt, D4.out.lt, D5.out.lt, D6.out.lt, Z.out.1, by rw [hg2]; exact Nat.le_refl _⟩
 have F10 : Hid (Fr Nothing w w10) := (F8.out.trans N9.out.fr).then_ f10 (fun i hi e => by have e' : i = w8.heap.size := e; have := HNE.out; omega)
 have E2 := Lib.hid ((D2.out.fr N9.out.fr (fun x => x)).fr f10 (fun e => by have e' : g2 = w8.heap.size := e; have := HNE.out; omega))
 have E4 := Lib.hid ((D4.out.fr N9.out.fr (fun x => x)).fr f10 (fun e => by have e' : g4 = w8.heap.size := e; have := HNE.out; omega))
 have E5 := Lib.hid ((D5.out.fr N9.out.fr (fun x => x)).fr f10 (fun e => by have e' : g5 = w8.heap.size := e; have := HNE.out; omega))
 have E6 := Lib.hid ((D6.out.fr N9.out.fr (fun x => x)).fr f10 (fun e => by have e' : g6 = w8.heap.size := e; have := HNE.out; omega))
 clear b7 f10 N9 D2 D4 D5 D6 F8 Z Z2
 generalize w8.heap.size = g7 at *
 have HG2 := Lib.hid hg2
 clear hg2
 go_wp2
 go_loopw [8] (fun i wr => ∃ k : Nat, k ≤ 64 ∧ i = .int .i64 k ∧ Blk wr g7 129 (stV (rounds W s k)).toArray ∧ Fr (fun k => k = g7) w10 wr) (fun i _ => 64 - (intOf i).toNat)
 case atStart => exact ⟨0, by omega, rfl, E7.out, Fr.refl _ _⟩
 case round =>
  obtain ⟨k, hk, rfl, hb, hf⟩ := hrel
  have KB := Lib.hid hb
  have KF := Lib.hid hf
  have hR := rounds_ok W s hs k
  clear hb hf E7
  by_cases hk64 : k < 64
  ·have HE : Hid (rounds W s (k + 1) = round (rounds W s k) (kTab[k]?.getD 0) (W[k]?.getD 0)) := rfl
   have c1 : wr.cell? ⟨g6, k, none⟩ = some (.int .u32 (kTab[k]?.getD 0)) := ((E6.out.fr KF.out (fun e => by have e' : g6 = g7 := e; have := HNE.out; omega)).cell k).trans (HKA.out.2.2 k hk64)
   have c2 : wr.cell? ⟨g5, k, none⟩ = some (.int .u32 (W[k]?.getD 0)) := ((E5.out.fr KF.out (fun e => by have e' : g5 = g7 := e; have := HNE.out; omega)).cell k).trans (HWA.out.2.2 k hk64)
   obtain ⟨kk, hkk⟩ : ∃ x, x = kTab[k]?.getD 0 := ⟨_, rfl⟩
   obtain ⟨ww, hww⟩ : ∃ x, x = W[k]?.getD 0 := ⟨_, rfl⟩
   rw [← hkk] at c1 HE
   rw [← hww] at c2 HE
   clear hkk hww
   generalize rounds W s k = R at *
   obtain ⟨g0, g1, g2', g3, g4', g5', g6', g7'⟩ := st_cells0 KB.out
   obtain ⟨x1, x2, a1, y1, y2, y3, y4, a2, a3, t1, t2, t3, t4, t5, t6, t7, t8, t9, t10⟩ := roundP_steps' R hR kk ww
   obtain ⟨o1, o2, z1, z2, z3, z4, z5, p1, p2, p3, p4, p5, p6, p7, p8⟩ := roundQ_steps R hR
   have r1 := wrap_add32 (roundP R kk ww) (roundQ R)
   have r2 := wrap_add32 R.d (roundP R kk ww)
   have HRE : Hid (rounds W s (k + 1) = ⟨add32 (roundP R kk ww) (roundQ R), R.a, R.b, R.c, add32 R.d (roundP R kk ww), R.e, R.f, R.g⟩) := HE.out
   have La := hR.a
   have Le := hR.e
   clear HE hR
   have hkI : (k : Int) < 64 := by omega
   generalize roundP R kk ww = P at *
   generalize roundQ R = Q at *
   go_wp2
   go_quiet (first | (go_at_call_of 95 (Value.int IntKind.i64 6); exact Calls.quiet_of (turn6 R.e _ Le)) | (go_at_call_of 95 (Value.int IntKind.i64 11); exact Calls.quiet_of (turn11 R.e _ Le)) | (go_at_call_of 95 (Value.int IntKind.i64 25); exact Calls.quiet_of (turn25 R.e _ Le)))
   have KB2 := Lib.hid (KB.out.drewN nq)
   have KF2 := Lib.hid (KF.out.drewN nq)
   clear KB KF c1 c2 t1 t2 t3 t4 t5 t6 t7 t8 t9 t10 g0 g1 g2' g3 g4' g5' g6' g7'
   generalize wr.drewN nq = v1 at *
   obtain ⟨g0, g1, g2', g3, g4', g5', g6', g7'⟩ := st_cells0 KB2.out
   go_wp2
   go_quiet (first | (go_at_call_of 95 (Value.int IntKind.i64 2); exact Calls.quiet_of (turn2 R.a _ La)) | (go_at_call_of 95 (Value.int IntKind.i64 13); exact Calls.quiet_of (turn13 R.a _ La)) | (go_at_call_of 95 (Value.int IntKind.i64 22); exact Calls.quiet_of (turn22 R.a _ La)))
   have KB3 := Lib.hid (KB2.out.drewN nq)
   have KF3 := Lib.hid (KF2.out.drewN nq)
   clear KB2 KF2 p1 p2 p3 p4 p5 p6 p7 p8 g0 g1 g2' g3 g4' g5' g6' g7'
   generalize v1.drewN nq = v2 at *
   obtain ⟨g0, g1, g2', g3, g4', g5', g6', g7'⟩ := st_cells0 KB3.out
   go_wp2_with (refine wpList_storeBlk rfl 129 (.tmp 7) _ rfl g7 _ rfl rfl _ _ KB3.out ?i ?h ?o ?_)
   case i => exact info8
   case h => rfl
   case o => exact stV_one ⟨add32 P Q, R.a, R.b, R.c, add32 R.d P, R.e, R.f, R.g⟩
   intro v3 b7 f7
   have KB4 : Hid (Blk v3 g7 129 (stV (rounds W s (k + 1))).toArray) := by
    simp only [Hid]
    rw [HRE.out]
    exact b7
   have KF4 := Lib.hid (KF3.out.trans f7)
   clear b7 f7 KB3 KF3 g0 g1 g2' g3 g4' g5' g6' g7'
   go_wp2
   go_roundw
   case rel => exact ⟨k + 1, by omega, by go_num, KB4.out, KF4.out⟩
   case measure => simp [intOf]; omega
  ·have hd64 : decide ((k : Int) < 64) = false := by simp; omega
   have E2' : Hid (Blk wr g2 129 ([] ++ stV (mixS s (rounds W s k) 0) ++ []).toArray) := by
    rw [mix0]
    exact E2.out.fr KF.out (fun e => by have e' : g2 = g7 := e; have := HNE.out; omega)
   have E4' : Hid (Blk wr g4 129 zero8c) := E4.out.fr KF.out (fun e => by have e' : g4 = g7 := e; have := HNE.out; omega)
   have F' : Hid (Fr Nothing w wr) := F10.out.then_ KF.out (fun i hi e => by have e' : i = g7 := e; have := HNE.out; omega)
   have HRE : Hid (rounds W s k = rounds W s 64) := by
    have e : k = 64 := by omega
    subst e; exact rfl
   clear hk64 hR E2 E4 E5 E6 F10 KF HWA HKA
   generalize rounds W s k = V at *
   obtain ⟨wa, hwa⟩ : ∃ x, x = wr := ⟨_, rfl⟩
   subst hwa
   go_wp2
   go_loopw [11] (fun i wq => ∃ k : Nat, k ≤ 8 ∧ i = .int .i64 k ∧ Blk wq g2 129 ([] ++ stV (mixS s V k) ++ []).toArray ∧ Fr (fun k => k = g2) wa wq) (fun i _ => 8 - (intOf i).toNat)
   case atStart => exact ⟨0, by omega, rfl, E2'.out, Fr.refl _ _⟩
   case round =>
    obtain ⟨k, hk, rfl, hb, hf⟩ := hrel
    have QB := Lib.hid hb
    have QF := Lib.hid hf
    clear hb hf E2' hd64
    by_cases hk8 : k < 8
    ·have c0 : wr.drew.cell? ⟨g2, k, none⟩ = some (.int .u32 (vAt s k)) := mix_cell QB.out.drew hk8
     have f0 : wr.drew.frozen? ⟨g2, k, none⟩ = false := QB.out.drew.frozen _
     have c1 : wr.drew.cell? ⟨g7, k, none⟩ = some (.int .u32 (vAt V k)) := st_at ((KB.out.fr QF.out (fun e => by have e' : g7 = g2 := e; have := HNE.out; omega)).drew) hk8
     have a0 := wrap_add32 (vAt s k) (vAt V k)
     have QB2 := Lib.hid (mix_put QB.out.drew hk8)
     have QF2 : Hid (Fr (fun k => k = g2) wa (wr.drew.setCell ⟨g2, k, none⟩ (.int .u32 ((add32 (vAt s k) (vAt V k) : Nat) : Int)))) := QF.out.drew.setCell (p := ⟨g2, k, none⟩) (fun _ => rfl) _
     have hkI : (k : Int) < 8 := by omega
     clear QB QF hk8
     generalize vAt s k = sk at *
     generalize vAt V k = vk at *
     go_wp2
     go_still_tail 9, (by kernel_rfl)
     change wpList _ _ _ _ _ wr.drew
     go_wp2
     go_roundw
     case rel => exact ⟨k + 1, by omega, by go_num, QB2.out, QF2.out⟩
     case measure => simp [intOf]; omega
    ·have hd8 : decide ((k : Int) < 8) = false := by simp; omega
     have e8 : k = 8 := by omega
     have G2 : Hid (Blk wr g2 129 RES) := by
      have h := QB.out
      rw [e8, mix8, HRE.out, List.nil_append, List.append_nil] at h
      rw [HRW.out]
      exact h
     have G4 : Hid (Blk wr g4 129 zero8c) := E4'.out.fr QF.out (fun e => by have e' : g4 = g2 := e; have := HNE.out; omega)
     have GF : Hid (Fr Nothing w wr) := F'.out.then_ QF.out (fun i hi e => by have e' : i = g2 := e; have := HNE.out; omega)
     have HS8 : Hid (RES.size = 8 ∧ RES.all (·.oneCell') = true) := by
      simp only [Hid]
      rw [HRW.out]
      exact ⟨rfl, stV_one _⟩
     have HI8 : Hid ((Tryz.prog.info? 129).map (·.size) = some RES.size) := by
      rw [HS8.out.1]
      exact info8
     clear e8 QB QF HRW HRE
     go_wp2_with (first | (refine wpList_load_row rfl 129 (.tmp 2) rfl g2 rfl _ RES _ _ G2.out Tryz.underlying129 rfl HI8.out ?_) | (refine wpList_storeBlk rfl 129 (.tmp 4) _ rfl g4 RES rfl rfl _ _ G4.out HI8.out (by rw [HS8.out.1]; rfl) HS8.out.2 ?_))
     intro wz b4 f4
     have J4 := Lib.hid b4
     have JF : Hid (Fr Nothing w wz) := GF.out.then_ f4 (fun i hi e => by have e' : i = g4 := e; have := HNE.out; omega)
     clear b4 f4
     go_wp2
     exact bodyPost_ret (results_cell_row (fn := Tryz.f73) (p := 4) (ty := 129) Tryz.results73 _ wz g4 129 RES (0, 0) _ rfl J4.out Tryz.underlying129 rfl HI8.out) rfl ⟨rfl, JF.out⟩
end Go.Proofs.YtpnchdgplpdefaaGreatDoor
namespace Go.Proofs.YtpnchdgplpdefaaGreatDoor
open Go.RowKit
theorem BGrew.alloc {W w : World} {v : Value} {l : List UInt8} (h : BGrew W w v l) (o : Obj) : BGrew W (w.alloc o) v l := by
 obtain ⟨hf, g, cap, rfl, hWg, hgw, hlc, hcm, hc, hz, hr⟩ := h
 have hb : (w.alloc o).heap[g]? = w.heap[g]? := Below.heap_alloc w o g hgw
 refine ⟨hf.alloc _, g, cap, rfl, hWg, by simp; omega, hlc, hcm, fun j hj => ?_, fun j hj => ?_, fun j u hu => ?_⟩
 ·have := hc j hj
  simp only [World.cell?] at this ⊢
  rw [hb]
  exact this
 ·have := hz j hj
  simp only [World.frozen?] at this ⊢
  rw [hb]
  exact this
 ·have := hr j u hu
  simp only [World.cell?] at this ⊢
  rw [hb]
  exact this
theorem wpList_appB1 {ops : Array Oper} {rest : List Oper} {o : Oper} {a : Act} {w : World} {Q : Exit → Act → World → Prop} (hgd : o.guard = none) (s x : Operand)
  (ho : o.op = .call { callee := .builtin .append, args := #[s, x], argTypes := #[28, 28] }) {W : World} {v : Value} {l : List UInt8} (hB : BGrew W w v l) (hs : a.eval s = v)
  (xs : List UInt8) (cs : Array Value) (hcs : cs = (xs.map bvI).toArray) (g m : Nat) (hg : g = w.heap.size) (hm : m = xs.length) (hx : a.eval x = .slice (some ⟨g, 0, none⟩) m m)
  (hl : l.length + xs.length ≤ 140737488355328) (hne : xs ≠ [])
  (h : ∀ v' w', BGrew W w' v' (l ++ xs) → wpList Tryz.prog ops Q rest (a.put o.dst v') w') : wpList Tryz.prog ops Q (o :: rest) a (w.alloc (.cells cs 5)) := by
 subst hg hm hcs hs
 obtain ⟨v', w', hrun, h2⟩ := (hB.alloc (.cells (xs.map bvI).toArray 5)).app o.type ⟨w.heap.size, 0, none⟩ xs.length (fun j u hu => by
  rw [show (⟨w.heap.size, 0, none⟩ : Addr).add j = ⟨w.heap.size, j, none⟩ by unfold Addr.add; split <;> simp_all, (Blk.new w 5 (xs.map bvI).toArray).cell j]
  simpa using hu) hl hne
 refine wpList_plain hgd fun K hK => ?_
 unfold Oper.wp execOp
 simp only [ho, resolve, invoke, builtin, Sem.run_bind, Sem.run_pure, Result.andThen_ok, List.map_toArray, List.map_cons, List.map_nil, hx, hrun]
 exact hK _ _ (h v' w' h2)
def lenOf : Value → Nat
 | .slice _ n _ => n
 | _ => 0
def Padded (w : World) (l : List UInt8) (e : Ending) (w' : World) : Prop := ∃ v, e = .returned v ∧ BGrew w w' v l
theorem oct_bv (n : Nat) : bvI (oct n) = .int .u8 ((n % 256 : Nat) : Int) := by
 unfold bvI oct
 rw [UInt8.toNat_ofNat']
theorem one_arr {a b : Int} (h : a = b) : #[Value.int .u8 a] = (Value.int .u8 b :: List.map bvI []).toArray := by rw [h]; rfl
def padK (l : List UInt8) (k : Nat) : List UInt8 := l ++ 128 :: List.replicate k 0
theorem padK_length (l : List UInt8) (k : Nat) : (padK l k).length = l.length + 1 + k := by simp [padK]; omega
theorem padK_succ (l : List UInt8) (k : Nat) : padK l k ++ [0] = padK l (k + 1) := by
 simp only [padK, List.append_assoc, List.cons_append, List.append_cancel_left_eq, List.cons.injEq, true_and]
 exact (List.replicate_succ' (n := k) (a := (0 : UInt8))).symm
set_option maxRecDepth 100000 in
set_option maxHeartbeats 1000000 in
theorem Pad_any (s : ByteArray) (w : World) (hs : s.size ≤ 1099511627776) : Calls Tryz.prog 72 #[.string s] w (Padded w (padL (txL s))) := by
 obtain ⟨v1, w1, hcv, hB1⟩ := BGrew.conv w s hs
 have HB := Lib.hid hB1
 have HLL := Lib.hid (txL_length s)
 clear hB1
 have HPL : Hid (padL (txL s) = padK (txL s) ((119 - s.size % 64) % 64) ++ len8 s.size) := by
  simp only [Hid]
  unfold padL padK
  rw [HLL.out]
  simp
 generalize hP : padL (txL s) = PL at *
 clear hP
 generalize hT : txL s = T at *
 clear hT
 go_enter Tryz.func72, Tryz.ntmps72
 go_wp2_with (at_builtin; refine wpList_appB1 rfl _ _ rfl HB.out rfl [128] _ rfl _ 1 rfl rfl rfl ?c1 (by simp) ?_)
 case c1 => have := HLL.out; simp; omega
 intro v2 w2 hB2
 have H2 : Hid (BGrew w w2 v2 (padK T 0)) := hB2
 clear hB2 hcv HB
 obtain ⟨Z, hZ⟩ : ∃ Z, Z = (119 - s.size % 64) % 64 := ⟨_, rfl⟩
 rw [← hZ] at HPL
 have HZ := Lib.hid hZ
 have hZ64 : Z < 64 := by omega
 clear hZ
 go_wp2
 go_loopw [3] (fun v wr => ∃ k : Nat, k ≤ Z ∧ BGrew w wr v (padK T k)) (fun v _ => s.size + 1 + Z - lenOf v)
 case atStart => exact ⟨0, by omega, H2.out⟩
 case round =>
  obtain ⟨k, hk, hB⟩ := hrel
  have HG := Lib.hid hB
  obtain ⟨_, gg, cap, rfl, _⟩ := hB
  have hL : (padK T k).length = s.size + 1 + k := by rw [padK_length, HLL.out]
  obtain ⟨L, hLL⟩ : ∃ L, L = (padK T k).length := ⟨_, rfl⟩
  have HLk : Hid (L = s.size + 1 + k) := hLL.trans hL
  have HLe : Hid (L = (padK T k).length) := hLL
  rw [← hLL] at HG ⊢
  clear hL hLL H2
  by_cases hkZ : k < Z
  ·have ht : (((L : Nat) : Int) % 64 != 56) = true := by
    have := HLk.out; have := HZ.out
    rw [bne_iff_ne]; omega
   go_wp2_with (at_builtin; refine wpList_appB1 rfl _ _ rfl HG.out rfl [0] _ rfl _ 1 rfl rfl rfl ?c2 (by simp) ?_)
   case c2 => have := HLe.out; have := HLk.out; simp; omega
   intro v3 w3 hB3
   rw [padK_succ] at hB3
   have H3 := Lib.hid hB3
   clear hB3
   go_wp2
   go_roundw
   case rel => exact ⟨k + 1, by omega, H3.out⟩
   case measure =>
    obtain ⟨_, g5, c5, rfl, _⟩ := H3.out
    have := HLk.out
    simp only [lenOf, padK_length, HLL.out]
    omega
  ·have ht : (((L : Nat) : Int) % 64 != 56) = false := by
    have := HLk.out; have := HZ.out
    rw [bne_eq_false_iff_eq]; omega
   rw [show k = Z by omega] at HG HLe
   have HBL : Hid ((padK T Z).length ≤ 1099511627776 + 65) := by have := HLe.out; have := HLk.out; simp only [Hid]; omega
   have H4 : Hid (BGrew w wr (.slice (some ⟨gg, 0, none⟩) L cap) (padK T Z ++ (len8 s.size).take 0)) := by simpa [Hid] using HG.out
   clear HG HLe HLk hkZ hk
   have hn8 : (8 : Int) * (s.size : Int) ≤ 8796093022208 := by omega
   go_wp2
   go_loopw [3, 5] (fun v i wr => ∃ k : Nat, k ≤ 8 ∧ i = .int .i64 (7 - (k : Int)) ∧ BGrew w wr v (padK T Z ++ (len8 s.size).take k)) (fun _ i _ => (intOf i + 1).toNat)
   case atStart => exact ⟨0, by omega, rfl, H4.out⟩
   case round =>
    obtain ⟨k, hk, rfl, hB⟩ := hrel
    have HH := Lib.hid hB
    obtain ⟨_, gq, cq, rfl, _⟩ := hB
    clear H4
    have hc : k = 0 ∨ k = 1 ∨ k = 2 ∨ k = 3 ∨ k = 4 ∨ k = 5 ∨ k = 6 ∨ k = 7 ∨ k = 8 := by omega
    clear hk
    rcases hc with rfl | rfl | rfl | rfl | rfl | rfl | rfl | rfl | rfl
    ·go_wp2_with (at_builtin; refine wpList_appB1 rfl _ _ rfl HH.out rfl [oct (8 * s.size / 72057594037927936)] _ ?d0 _ 1 rfl rfl rfl ?e0 (by simp) ?_)
     case d0 => rw [List.map_cons, oct_bv]; exact one_arr (by omega)
     case e0 => have := HBL.out; simp; omega
     intro v5 w5 hB5
     have H5 : Hid (BGrew w w5 v5 (padK T Z ++ (len8 s.size).take 1)) := by simpa [Hid, len8, List.append_assoc] using hB5
     clear hB5
     go_wp2
     go_roundw
     case rel => exact ⟨1, by omega, by go_num, H5.out⟩
     case measure => simp [intOf]
    ·go_wp2_with (at_builtin; refine wpList_appB1 rfl _ _ rfl HH.out rfl [oct (8 * s.size / 281474976710656)] _ ?d1 _ 1 rfl rfl rfl ?e1 (by simp) ?_)
     case d1 => rw [List.map_cons, oct_bv]; exact one_arr (by omega)
     case e1 => have := HBL.out; simp; omega
     intro v5 w5 hB5
     have H5 : Hid (BGrew w w5 v5 (padK T Z ++ (len8 s.size).take 2)) := by simpa [Hid, len8, List.append_assoc] using hB5
     clear hB5
     go_wp2
     go_roundw
     case rel => exact ⟨2, by omega, by go_num, H5.out⟩
     case measure => simp [intOf]
    ·go_wp2_with (at_builtin; refine wpList_appB1 rfl _ _ rfl HH.out rfl [oct (8 * s.size / 1099511627776)] _ ?d2 _ 1 rfl rfl rfl ?e2 (by simp) ?_)
     case d2 => rw [List.map_cons, oct_bv]; exact one_arr (by omega)
     case e2 => have := HBL.out; simp; omega
     intro v5 w5 hB5
     have H5 : Hid (BGrew w w5 v5 (padK T Z ++ (len8 s.size).take 3)) := by simpa [Hid, len8, List.append_assoc] using hB5
     clear hB5
     go_wp2
     go_roundw
     case rel => exact ⟨3, by omega, by go_num, H5.out⟩
     case measure => simp [intOf]
    ·go_wp2_with (at_builtin; refine wpList_appB1 rfl _ _ rfl HH.out rfl [oct (8 * s.size / 4294967296)] _ ?d3 _ 1 rfl rfl rfl ?e3 (by simp) ?_)
     case d3 => rw [List.map_cons, oct_bv]; exact one_arr (by omega)
     case e3 => have := HBL.out; simp; omega
     intro v5 w5 hB5
     have H5 : Hid (BGrew w w5 v5 (padK T Z ++ (len8 s.size).take 4)) := by simpa [Hid, len8, List.append_assoc] using hB5
     clear hB5
     go_wp2
     go_roundw
     case rel => exact ⟨4, by omega, by go_num, H5.out⟩
     case measure => simp [intOf]
    ·go_wp2_with (at_builtin; refine wpList_appB1 rfl _ _ rfl HH.out rfl [oct (8 * s.size / 16777216)] _ ?d4 _ 1 rfl rfl rfl ?e4 (by simp) ?_)
     case d4 => rw [List.map_cons, oct_bv]; exact one_arr (by omega)
     case e4 => have := HBL.out; simp; omega
     intro v5 w5 hB5
     have H5 : Hid (BGrew w w5 v5 (padK T Z ++ (len8 s.size).take 5)) := by simpa [Hid, len8, List.append_assoc] using hB5
     clear hB5
     go_wp2
     go_roundw
     case rel => exact ⟨5, by omega, by go_num, H5.out⟩
     case measure => simp [intOf]
    ·go_wp2_with (at_builtin; refine wpList_appB1 rfl _ _ rfl HH.out rfl [oct (8 * s.size / 65536)] _ ?d5 _ 1 rfl rfl rfl ?e5 (by simp) ?_)
     case d5 => rw [List.map_cons, oct_bv]; exact one_arr (by omega)
     case e5 => have := HBL.out; simp; omega
     intro v5 w5 hB5
     have H5 : Hid (BGrew w w5 v5 (padK T Z ++ (len8 s.size).take 6)) := by simpa [Hid, len8, List.append_assoc] using hB5
     clear hB5
     go_wp2
     go_roundw
     case rel => exact ⟨6, by omega, by go_num, H5.out⟩
     case measure => simp [intOf]
    ·go_wp2_with (at_builtin; refine wpList_appB1 rfl _ _ rfl HH.out rfl [oct (8 * s.size / 256)] _ ?d6 _ 1 rfl rfl rfl ?e6 (by simp) ?_)
     case d6 => rw [List.map_cons, oct_bv]; exact one_arr (by omega)
     case e6 => have := HBL.out; simp; omega
     intro v5 w5 hB5
     have H5 : Hid (BGrew w w5 v5 (padK T Z ++ (len8 s.size).take 7)) := by simpa [Hid, len8, List.append_assoc] using hB5
     clear hB5
     go_wp2
     go_roundw
     case rel => exact ⟨7, by omega, by go_num, H5.out⟩
     case measure => simp [intOf]
    ·go_wp2_with (at_builtin; refine wpList_appB1 rfl _ _ rfl HH.out rfl [oct (8 * s.size)] _ ?d7 _ 1 rfl rfl rfl ?e7 (by simp) ?_)
     case d7 => rw [List.map_cons, oct_bv]; exact one_arr (by omega)
     case e7 => have := HBL.out; simp; omega
     intro v5 w5 hB5
     have H5 : Hid (BGrew w w5 v5 (padK T Z ++ (len8 s.size).take 8)) := by simpa [Hid, len8, List.append_assoc] using hB5
     clear hB5
     go_wp2
     go_roundw
     case rel => exact ⟨8, by omega, by go_num, H5.out⟩
     case measure => simp [intOf]
    ·have H9 : Hid (BGrew w wr (.slice (some ⟨gq, 0, none⟩) (padK T Z ++ (len8 s.size).take 8).length cq) PL) := by
      simp only [Hid]
      rw [HPL.out]
      exact HH.out
     go_wp2
     go_ret
     exact ⟨_, rfl, H9.out⟩
end Go.Proofs.YtpnchdgplpdefaaGreatDoor
