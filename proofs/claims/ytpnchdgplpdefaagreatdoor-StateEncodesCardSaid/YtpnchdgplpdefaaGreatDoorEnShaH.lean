/- sha256.Hash.Sum: plain parts, and the two new blocks of its walk. -/
import Derived.Test.YtpnchdgplpdefaaGreatDoorEnShaE
import Derived.Test.YtpnchdgplpdefaaGreatDoorEnShaC
import Derived.Deep.MidRow
namespace Go.Proofs.YtpnchdgplpdefaaGreatDoor
open Go.RowKit
def zero32c : Array Value := Array.replicate 32 (.int .u8 0)
def zero32 : Value := .agg zero32c
theorem zv32 (w : World) : (zeroValue 34).run Tryz.prog w = .ok zero32 w := by kernel_rfl
theorem info32 : (Tryz.prog.info? 34).map (·.size) = some 32 := by kernel_rfl
def digK (V : St8) (k : Nat) : List UInt8 := (digestS V).take k ++ List.replicate (32 - k) 0
theorem digK_length (V : St8) (k : Nat) (h : k ≤ 32) : (digK V k).length = 32 := by
 simp [digK, digestS_length]; omega
theorem digK_put (V : St8) (k : Nat) (x : UInt8) (h : k < 32) (hx : (digestS V)[k]? = some x) : ((digK V k).map bvI).set k (bvI x) = (digK V (k + 1)).map bvI := by
 rw [← List.map_set]
 congr 1
 have hl : ((digestS V).take k).length = k := by simp [digestS_length]; omega
 unfold digK
 rw [List.set_append_right _ _ (by omega), hl, Nat.sub_self, show 32 - k = (32 - (k + 1)) + 1 by omega, List.replicate_succ, List.set_cons_zero]
 have ht : (digestS V).take (k + 1) = (digestS V).take k ++ [x] := by
  rw [List.take_add_one, hx]
  rfl
 rw [ht]
 simp
theorem digK_32 (V : St8) : digK V 32 = digestS V := by
 unfold digK
 rw [List.take_of_length_le (by rw [digestS_length]; exact Nat.le_refl _)]
 simp
theorem dig_at (V : St8) (q r : Nat) (hq : q < 8) (hr : r < 4) : (digestS V)[4 * q + r]? = some (oct (vAt V q / 2 ^ (24 - 8 * r))) := by
 have h4 : r = 0 ∨ r = 1 ∨ r = 2 ∨ r = 3 := by omega
 rcases below8 hq with rfl | rfl | rfl | rfl | rfl | rfl | rfl | rfl <;> rcases h4 with rfl | rfl | rfl | rfl <;> simp [digestS, wBytes, vAt]
theorem shaL_def (l : List UInt8) : shaL l = digestS (runB initS (padL l) ((padL l).length / 64)) := rfl
theorem runB_succ (s : St8) (l : List UInt8) (k : Nat) : runB s l (k + 1) = blockS (runB s l k) ((l.drop (64 * k)).take 64) := rfl
theorem runB_zero (s : St8) (l : List UInt8) : runB s l 0 = s := rfl
theorem digK_zero (V : St8) : ((digK V 0).map bvI).toArray = zero32c := by
 unfold digK zero32c
 rw [List.take_zero, List.nil_append, List.map_replicate, List.toArray_replicate]
 rfl
theorem bytes_one (l : List UInt8) : (l.map bvI).toArray.all (·.oneCell') = true := by
 rw [Array.all_eq_true_iff_forall_mem]
 intro v hv
 simp only [List.mem_toArray, List.mem_map] at hv
 obtain ⟨x, _, rfl⟩ := hv
 rfl
theorem info8s (V : St8) : (Tryz.prog.info? 129).map (·.size) = some (stV V).toArray.size := by rw [stV_size]; exact info8
theorem vAt_lt (V : St8) (h : V.ok) (q : Nat) : vAt V q < 4294967296 := by
 unfold vAt
 split
 ·exact h.a
 ·exact h.b
 ·exact h.c
 ·exact h.d
 ·exact h.e
 ·exact h.f
 ·exact h.g
 ·exact h.h
set_option maxRecDepth 100000 in
set_option maxHeartbeats 1000000 in
theorem refSum_any (s : ByteArray) (w : World) (hs : s.size ≤ 1099511627776) : Calls Tryz.prog 38 #[.string s] w (Same' w (.agg ((shaL (txL s)).map bvI).toArray)) := by
 have HRES := Lib.hid (shaL_def (txL s))
 have HPL : Hid ((padL (txL s)).length % 64 = 0 ∧ (padL (txL s)).length ≤ 1099511627776 + 200) := by
  refine ⟨padL_mod _, ?_⟩
  rw [padL_length, txL_length]
  omega
 have CP := Lib.hid (fun w => Pad_any s w hs)
 generalize shaL (txL s) = RES at *
 generalize padL (txL s) = PL at *
 obtain ⟨RA, hRA⟩ : ∃ RA, RA = (RES.map bvI).toArray := ⟨_, rfl⟩
 rw [← hRA]
 have HRA := Lib.hid hRA
 clear hRA
 go_enter Tryz.func38, Tryz.ntmps38
 go_wp2_with (refine wpList_allocBlk rfl 34 rfl zero32 zv32 zero32c rfl ?_)
 intro w1 n1
 have N1 := Lib.hid n1
 clear n1
 go_wp2_with (first | (refine wpList_buildTo rfl 129 _ rfl (stV initS).toArray (by kernel_rfl) ?_) | (refine wpList_allocBlk rfl 129 rfl zero8 zv8 zero8c rfl ?_))
 intro w2 n2
 have B1 := Lib.hid (N1.out.blk.fr n2.fr (fun x => x))
 have B2 := Lib.hid n2.blk
 have F2 : Hid (Fr Nothing w w2) := N1.out.fr.trans n2.fr
 have Z : Hid (w.heap.size < w1.heap.size ∧ w1.heap.size < w2.heap.size) := ⟨by have := N1.out.size; omega, by have := n2.size; omega⟩
 clear n2 N1
 generalize hg1 : w.heap.size = g1 at *
 generalize w1.heap.size = g2 at *
 go_wp2_with (refine wpList_storeBlk rfl 129 (.tmp 3) _ rfl g2 (stV initS).toArray rfl rfl _ _ B2.out (info8s initS) (stV_size initS).symm (stV_one initS) ?_)
 intro w3 b3 f3
 have B3 := Lib.hid b3
 have F3 := Lib.hid f3
 clear b3 f3 B2
 go_wp2_with fail
 refine (CP.out _).mono ?_
 rintro e w4 ⟨v4, rfl, hG⟩
 have HG := Lib.hid hG
 have C3 := Lib.hid (B3.out.fr hG.fr (fun x => x))
 have C1 := Lib.hid ((B1.out.fr F3.out (fun e => by have e' : g1 = g2 := e; have := Z.out; omega)).fr hG.fr (fun x => x))
 have F4 : Hid (Fr Nothing w w4) := (F2.out.then_ F3.out (fun i hi e => by have e' : i = g2 := e; have := Z.out; omega)).trans hG.fr
 obtain ⟨_, gp, cap, rfl, hp1, hp2, hp3, hp4, hp5, hp6, hp7⟩ := hG
 have HPC : Hid (∀ j u, (PL.map bvI)[j]? = some u → w4.cell? ⟨gp, j, none⟩ = some u) := hp7
 have HNE : Hid (g2 < gp ∧ g1 < g2 ∧ w.heap.size = g1) := ⟨by have := B3.out.lt; omega, Z.out.1, hg1⟩
 have hcap : PL.length ≤ cap := hp3
 have hcap2 : cap ≤ 9223372036854775807 := by have := hp4; simp only [maxLen] at this; omega
 obtain ⟨N, hN⟩ : ∃ N, N = PL.length := ⟨_, rfl⟩
 rw [← hN] at hcap HPL HRES ⊢
 have HN := Lib.hid hN
 clear hp1 hp2 hp3 hp4 hp5 hp6 hp7 hg1 hN B3 B1 F3 F2 Z CP HG
 have hN2 : N ≤ 1099511627776 + 200 := HPL.out.2
 go_wp2
 go_loopw [5] (fun i wr => ∃ k : Nat, 64 * k ≤ N ∧ i = .int .i64 (64 * k : Nat) ∧ Blk wr g2 129 (stV (runB initS PL k)).toArray ∧ Fr (fun k => k = g2) w4 wr) (fun i _ => N - (intOf i).toNat)
 case atStart => exact ⟨0, by omega, rfl, by rw [runB_zero]; exact C3.out, Fr.refl _ _⟩
 case round =>
  obtain ⟨k, hk, rfl, hb, hf⟩ := hrel
  have KB := Lib.hid hb
  have KF := Lib.hid hf
  have hR := runB_ok initS PL initS_ok k
  clear hb hf C3
  by_cases hlt : 64 * k < N
  ·have HE := Lib.hid (runB_succ initS PL k)
   have hge : 64 * k + 64 ≤ N := by have := HPL.out.1; omega
   have HCB : Hid (∀ j, j < 64 → wr.drew.cell? ⟨gp, 64 * k + j, none⟩ = some (bvI (((PL.drop (64 * k)).take 64)[j]?.getD 0))) := by
    intro j hj
    refine KF.out.cellSome (HPC.out (64 * k + j) _ ?_) (fun e => by have e' : gp = g2 := e; have := HNE.out; omega)
    have hlt2 : 64 * k + j < PL.length := by have := HN.out; omega
    rw [List.getElem?_map, List.getElem?_take, if_pos hj, List.getElem?_drop, List.getElem?_eq_getElem hlt2]
    rfl
   generalize runB initS PL k = R at *
   generalize (PL.drop (64 * k)).take 64 = BB at *
   obtain ⟨g0', g1', g2', g3', g4', g5', g6', g7'⟩ := st_cells0 KB.out.drew
   have HM : Hid ((64 * (k + 1)) = 64 * k + 64) := by simp only [Hid]; omega
   have HKK : Hid (64 * k = 64 * k) := rfl
   generalize 64 * k = A at *
   have a1 : IntKind.i64.wrap ((A : Int) + 64) = (A : Int) + 64 := IntWalk.i64_in _ (by omega)
   have a2 : (A : Int) < (N : Int) := by omega
   have a3 : (A : Int) + 64 ≤ (cap : Int) := by omega
   have a4 : (A : Int) ≤ (A : Int) + 64 := by omega
   have a5 : (0 : Int) ≤ (A : Int) + 64 := by omega
   have a6 : ((A : Int) + 64).toNat = A + 64 := by omega
   have a7 : ¬ cap = A := by omega
   go_wp2
   go_still_tail 6, (by kernel_rfl)
   change wpList _ _ _ _ _ wr.drew
   have CB := Lib.hid (block_any R hR gp A (cap - A) BB wr.drew HCB.out)
   generalize blockS R BB = R2 at *
   go_wp2_with fail
   refine CB.out.mono ?_
   rintro e w5 ⟨rfl, f5⟩
   have KB5 := Lib.hid (KB.out.drew.fr f5 (fun x => x))
   have KF5 : Hid (Fr (fun k => k = g2) w4 w5) := KF.out.drew.trans f5.weak
   clear f5 CB KB KF g0' g1' g2' g3' g4' g5' g6' g7'
   go_wp2_with (refine wpList_storeBlk rfl 129 (.tmp 3) _ rfl g2 (stV R2).toArray rfl rfl _ _ KB5.out (info8s R2) ((stV_size R).trans (stV_size R2).symm) (stV_one R2) ?_)
   intro w6 b6 f6
   have KB6 : Hid (Blk w6 g2 129 (stV (runB initS PL (k + 1))).toArray) := by
    simp only [Hid]
    rw [HE.out]
    exact b6
   have KF6 := Lib.hid (KF5.out.trans f6)
   clear b6 f6 KB5 KF5
   go_wp2
   go_roundw
   case rel => exact ⟨k + 1, by have := HM.out; omega, by rw [HM.out]; go_num, KB6.out, KF6.out⟩
   case measure => simp [intOf]; omega
  ·have hd : decide (64 * k < N) = false := by simpa using hlt
   have hdI : decide (((64 * k : Nat) : Int) < (N : Int)) = false := by simp; omega
   have HRV : Hid (RES = digestS (runB initS PL k)) := by
    rw [show N / 64 = k by have := HPL.out.1; omega] at HRES
    exact HRES.out
   have F5 : Hid (Fr Nothing w wr) := F4.out.then_ KF.out (fun i hi e => by have e' : i = g2 := e; have := HNE.out; omega)
   have B1' : Hid (Blk wr g1 34 zero32c) := C1.out.fr KF.out (fun e => by have e' : g1 = g2 := e; have := HNE.out; omega)
   generalize runB initS PL k = V at *
   clear F4 C1 KF HPC HRES HPL hcap hcap2 hN2 HN
   obtain ⟨wa0, hwa⟩ : ∃ x, x = wr := ⟨_, rfl⟩
   subst hwa
   generalize 64 * k = A at *
   go_wp2_with (refine wpList_allocBlk rfl 34 rfl zero32 zv32 zero32c rfl ?_)
   intro wa n6
   have E6 := Lib.hid n6.blk
   have E1 := Lib.hid (B1'.out.fr n6.fr (fun x => x))
   have E2 := Lib.hid (KB.out.fr n6.fr (fun x => x))
   have FA := Lib.hid (F5.out.trans n6.fr)
   have HN2 : Hid (g1 < wa0.heap.size ∧ g2 < wa0.heap.size ∧ w.heap.size ≤ wa0.heap.size ∧ w.heap.size ≤ g1) := ⟨B1'.out.lt, KB.out.lt, F5.out.size, by have := HNE.out; omega⟩
   clear n6 B1' KB F5 HNE
   generalize wa0.heap.size = g6 at *
   go_wp2
   go_loopw [7] (fun i wr => ∃ k : Nat, k ≤ 32 ∧ i = .int .i64 k ∧ Blk wr g6 34 ((digK V k).map bvI).toArray ∧ Fr (fun k => k = g6) wa wr) (fun i _ => 32 - (intOf i).toNat)
   case atStart => exact ⟨0, by omega, rfl, by rw [digK_zero]; exact E6.out, Fr.refl _ _⟩
   case round =>
    obtain ⟨k, hk, rfl, hb, hf⟩ := hrel
    have KD := Lib.hid hb
    have KDF := Lib.hid hf
    have E2' := Lib.hid (E2.out.fr hf (fun e => by have e' : g2 = g6 := e; have := HN2.out; omega))
    clear hb hf E6 hd hdI
    by_cases hlt : k < 32
    ·obtain ⟨q, r, hqr, hr⟩ : ∃ q r, k = 4 * q + r ∧ r < 4 := ⟨k / 4, k % 4, by omega, by omega⟩
     have hq8 : q < 8 := by omega
     have cq := st_at E2'.out hq8
     have lq := vAt_lt V hR q
     obtain ⟨u6, hu6⟩ : ∃ u, wr.cell? ⟨g6, k, none⟩ = some u := by
      have hlen : k < ((digK V k).map bvI).length := by rw [List.length_map, digK_length V k (by omega)]; exact hlt
      rw [KD.out.cell, List.getElem?_toArray]
      exact ⟨_, List.getElem?_eq_getElem hlen⟩
     have fz := KD.out.frozen k
     subst hqr
     have h4 : r = 0 ∨ r = 1 ∨ r = 2 ∨ r = 3 := by omega
     clear hr hk
     have hqI : (q : Int) < 8 := by omega
     rcases h4 with rfl | rfl | rfl | rfl
     ·have hx : (digestS V)[4 * q + 0]? = some (oct (vAt V q / 16777216)) := by
       have := dig_at V q 0 hq8 (by omega)
       simpa using this
      have D2 : Hid (Blk (wr.setCell ⟨g6, 4 * q + 0, none⟩ (bvI (oct (vAt V q / 16777216)))) g6 34 ((digK V (4 * q + 0 + 1)).map bvI).toArray) := by
       have h := KD.out.set_ (4 * q + 0) (bvI (oct (vAt V q / 16777216)))
       rw [List.setIfInBounds_toArray, digK_put V (4 * q + 0) _ hlt hx] at h
       exact h
      have DF : Hid (Fr (fun k => k = g6) wa (wr.setCell ⟨g6, 4 * q + 0, none⟩ (bvI (oct (vAt V q / 16777216))))) := KDF.out.setCell (p := ⟨g6, 4 * q + 0, none⟩) (fun _ => rfl) _
      rw [oct_bv] at D2 DF
      have hq4 : ((4 * q + 0 : Nat) : Int) / 4 = (q : Int) := by omega
      have hr4 : ((4 * q + 0 : Nat) : Int) % 4 = 0 := by omega
      have hmod : ((vAt V q : Nat) : Int) / 16777216 = ((vAt V q / 16777216 % 256 : Nat) : Int) := by omega
      have hki : ((4 * q + 0 : Nat) : Int) < 32 := by omega
      generalize vAt V q / 16777216 % 256 = bb at *
      generalize vAt V q = vq at *
      clear hx KD KDF
      generalize 4 * q + 0 = kk at *
      go_wp2
      go_roundw
      case rel => exact ⟨kk + 1, by omega, by go_num, D2.out, DF.out⟩
      case measure => simp [intOf]; omega
     ·have hx : (digestS V)[4 * q + 1]? = some (oct (vAt V q / 65536)) := by
       have := dig_at V q 1 hq8 (by omega)
       simpa using this
      have D2 : Hid (Blk (wr.setCell ⟨g6, 4 * q + 1, none⟩ (bvI (oct (vAt V q / 65536)))) g6 34 ((digK V (4 * q + 1 + 1)).map bvI).toArray) := by
       have h := KD.out.set_ (4 * q + 1) (bvI (oct (vAt V q / 65536)))
       rw [List.setIfInBounds_toArray, digK_put V (4 * q + 1) _ hlt hx] at h
       exact h
      have DF : Hid (Fr (fun k => k = g6) wa (wr.setCell ⟨g6, 4 * q + 1, none⟩ (bvI (oct (vAt V q / 65536))))) := KDF.out.setCell (p := ⟨g6, 4 * q + 1, none⟩) (fun _ => rfl) _
      rw [oct_bv] at D2 DF
      have hq4 : ((4 * q + 1 : Nat) : Int) / 4 = (q : Int) := by omega
      have hr4 : ((4 * q + 1 : Nat) : Int) % 4 = 1 := by omega
      have hmod : ((vAt V q : Nat) : Int) / 65536 % 256 = ((vAt V q / 65536 % 256 : Nat) : Int) := by omega
      have hki : ((4 * q + 1 : Nat) : Int) < 32 := by omega
      generalize vAt V q / 65536 % 256 = bb at *
      generalize vAt V q = vq at *
      clear hx KD KDF
      generalize 4 * q + 1 = kk at *
      go_wp2
      go_roundw
      case rel => exact ⟨kk + 1, by omega, by go_num, D2.out, DF.out⟩
      case measure => simp [intOf]; omega
     ·have hx : (digestS V)[4 * q + 2]? = some (oct (vAt V q / 256)) := by
       have := dig_at V q 2 hq8 (by omega)
       simpa using this
      have D2 : Hid (Blk (wr.setCell ⟨g6, 4 * q + 2, none⟩ (bvI (oct (vAt V q / 256)))) g6 34 ((digK V (4 * q + 2 + 1)).map bvI).toArray) := by
       have h := KD.out.set_ (4 * q + 2) (bvI (oct (vAt V q / 256)))
       rw [List.setIfInBounds_toArray, digK_put V (4 * q + 2) _ hlt hx] at h
       exact h
      have DF : Hid (Fr (fun k => k = g6) wa (wr.setCell ⟨g6, 4 * q + 2, none⟩ (bvI (oct (vAt V q / 256))))) := KDF.out.setCell (p := ⟨g6, 4 * q + 2, none⟩) (fun _ => rfl) _
      rw [oct_bv] at D2 DF
      have hq4 : ((4 * q + 2 : Nat) : Int) / 4 = (q : Int) := by omega
      have hr4 : ((4 * q + 2 : Nat) : Int) % 4 = 2 := by omega
      have hmod : ((vAt V q : Nat) : Int) / 256 % 256 = ((vAt V q / 256 % 256 : Nat) : Int) := by omega
      have hki : ((4 * q + 2 : Nat) : Int) < 32 := by omega
      generalize vAt V q / 256 % 256 = bb at *
      generalize vAt V q = vq at *
      clear hx KD KDF
      generalize 4 * q + 2 = kk at *
      go_wp2
      go_roundw
      case rel => exact ⟨kk + 1, by omega, by go_num, D2.out, DF.out⟩
      case measure => simp [intOf]; omega
     ·have hx : (digestS V)[4 * q + 3]? = some (oct (vAt V q)) := by
       have := dig_at V q 3 hq8 (by omega)
       simpa using this
      have D2 : Hid (Blk (wr.setCell ⟨g6, 4 * q + 3, none⟩ (bvI (oct (vAt V q)))) g6 34 ((digK V (4 * q + 3 + 1)).map bvI).toArray) := by
       have h := KD.out.set_ (4 * q + 3) (bvI (oct (vAt V q)))
       rw [List.setIfInBounds_toArray, digK_put V (4 * q + 3) _ hlt hx] at h
       exact h
      have DF : Hid (Fr (fun k => k = g6) wa (wr.setCell ⟨g6, 4 * q + 3, none⟩ (bvI (oct (vAt V q))))) := KDF.out.setCell (p := ⟨g6, 4 * q + 3, none⟩) (fun _ => rfl) _
      rw [oct_bv] at D2 DF
      have hq4 : ((4 * q + 3 : Nat) : Int) / 4 = (q : Int) := by omega
      have hr4 : ((4 * q + 3 : Nat) : Int) % 4 = 3 := by omega
      have hmod : ((vAt V q : Nat) : Int) % 256 = ((vAt V q % 256 : Nat) : Int) := by omega
      have hki : ((4 * q + 3 : Nat) : Int) < 32 := by omega
      generalize vAt V q % 256 = bb at *
      generalize vAt V q = vq at *
      clear hx KD KDF
      generalize 4 * q + 3 = kk at *
      go_wp2
      go_roundw
      case rel => exact ⟨kk + 1, by omega, by go_num, D2.out, DF.out⟩
      case measure => simp [intOf]; omega
    ·have hd2 : decide ((k : Int) < 32) = false := by simp; omega
     have G6 : Hid (Blk wr g6 34 RA) := by
      have h := KD.out
      rw [show k = 32 by omega, digK_32, ← HRV.out, ← HRA.out] at h
      exact h
     have G1 : Hid (Blk wr g1 34 zero32c) := E1.out.fr KDF.out (fun e => by have e' : g1 = g6 := e; have := HN2.out; omega)
     have GF : Hid (Fr Nothing w wr) := FA.out.then_ KDF.out (fun i hi e => by have e' : i = g6 := e; have := HN2.out; omega)
     have HS : Hid (RA.size = 32 ∧ RA.all (·.oneCell') = true) := by
      simp only [Hid]
      rw [HRA.out]
      refine ⟨by rw [HRV.out]; rfl, bytes_one _⟩
     have HI : Hid ((Tryz.prog.info? 34).map (·.size) = some RA.size) := by
      rw [HS.out.1]
      exact info32
     clear KD KDF E1 E2 E2' FA HRV HRA
     go_wp2_with (first | (refine wpList_load_row rfl 34 (.tmp 6) rfl g6 rfl _ RA _ _ G6.out Tryz.underlying34 rfl HI.out ?_) | (refine wpList_storeBlk rfl 34 (.tmp 2) _ rfl g1 RA rfl rfl _ _ G1.out HI.out (by rw [HS.out.1]; rfl) HS.out.2 ?_))
     intro wz b4 f4
     have J4 := Lib.hid b4
     have JF : Hid (Fr Nothing w wz) := GF.out.then_ f4 (fun i hi e => by have e' : i = g1 := e; have := HN2.out; omega)
     clear b4 f4
     go_wp2
     exact bodyPost_ret (results_cell_row (fn := Tryz.f38) (p := 2) (ty := 34) Tryz.results38 _ wz g1 34 RA (0, 0) _ rfl J4.out Tryz.underlying34 rfl HI.out) rfl ⟨rfl, JF.out⟩
end Go.Proofs.YtpnchdgplpdefaaGreatDoor
namespace Go.Proofs.YtpnchdgplpdefaaGreatDoor
open Go.RowKit
theorem zvD (w : World) : (zeroValue 91).run Tryz.prog w = .ok zero32 w := by kernel_rfl
theorem len8s (V : St8) : (Tryz.prog.info? 129).map (·.size) = some (stV V).length := by kernel_rfl
theorem info64b : (Tryz.prog.info? 130).map (·.size) = some 64 := by kernel_rfl
theorem infoD : (Tryz.prog.info? 91).map (·.size) = some 32 := by kernel_rfl
theorem zvU8 (w : World) : (zeroValue 5).run Tryz.prog w = .ok (.int .u8 0) w := by kernel_rfl
def endB (rest : List UInt8) (a : Nat) : List UInt8 := rest.take a ++ 128 :: List.replicate (63 - a) 0
theorem endB_length (rest : List UInt8) (a : Nat) (hr : rest.length = 64) (ha : a < 64) : (endB rest a).length = 64 := by simp [endB, hr]; omega
theorem endB_of (rest : List UInt8) (a : Nat) (hr : rest.length = 64) (ha : a < 64) : laidOver (rest.set a 128) (a + 1) (List.replicate (63 - a) 0) = endB rest a := by
 unfold laidOver endB
 rw [List.drop_of_length_le (by simp [hr]; omega), List.append_nil, List.take_set, List.take_succ_eq_append_getElem (by omega : a < rest.length), List.set_append_right _ _ (by simp; omega)]
 simp [hr]
 rw [show a - min a 64 = 0 by omega]
 rfl
theorem endB_63 (rest : List UInt8) (hr : rest.length = 64) : rest.set 63 128 = endB rest 63 := by
 rw [← endB_of rest 63 hr (by omega), laidOver]
 simp
def lenK (B : List UInt8) (L k : Nat) : List UInt8 := B.take (64 - k) ++ (len8 L).drop (8 - k)
theorem lenK_length (B : List UInt8) (L k : Nat) (hB : B.length = 64) (hk : k ≤ 8) : (lenK B L k).length = 64 := by simp [lenK, hB, len8_length]; omega
theorem lenK_zero (B : List UInt8) (L : Nat) (hB : B.length = 64) : lenK B L 0 = B := by
 unfold lenK
 rw [List.take_of_length_le (by omega), List.drop_of_length_le (by rw [len8_length]; omega), List.append_nil]
theorem lenK_put (B : List UInt8) (L k : Nat) (hB : B.length = 64) (hk : k < 8) (x : UInt8) (hx : (len8 L)[7 - k]? = some x) : (lenK B L k).set (63 - k) x = lenK B L (k + 1) := by
 unfold lenK
 rw [show 64 - k = (63 - k) + 1 by omega, List.take_succ_eq_append_getElem (by omega : 63 - k < B.length), List.set_append_left _ _ (by simp; omega), List.set_append_right _ _ (by simp; omega)]
 obtain ⟨h1, h2⟩ := List.getElem?_eq_some_iff.1 hx
 rw [show 64 - (k + 1) = 63 - k by omega, show 8 - (k + 1) = 7 - k by omega, List.drop_eq_getElem_cons h1, h2, show 7 - k + 1 = 8 - k by omega]
 rw [show 63 - k - (B.take (63 - k)).length = 0 by simp; omega]
 simp
theorem sha_end (M rest : List UInt8) (h : HashOk M rest) (a : Nat) (ha : a = M.length % 64) :
  (a < 56 → digestS (blockS (runB initS M (M.length / 64)) ((endB rest a).take 56 ++ len8 M.length)) = shaL M) ∧
  (56 ≤ a → digestS (blockS (blockS (runB initS M (M.length / 64)) (endB rest a)) ((List.replicate 64 0).take 56 ++ len8 M.length)) = shaL M) := by
 have hM := hash_ok M rest h
 obtain ⟨q, hq⟩ : ∃ q, q = M.length / 64 := ⟨_, rfl⟩
 have hml : (M.take (64 * q)).length = 64 * q := by rw [List.length_take, hq]; omega
 rw [← ha, ← hq] at hM
 have htl : (rest.take a).length = a := by rw [List.length_take, h.1, ha]; omega
 have hL : M.length = 64 * q + a := by omega
 have hR : runB initS M q = runB initS (M.take (64 * q)) q := by
  rw (occs := .pos [1]) [hM]
  exact runB_append initS _ _ q (by omega)
 rw [← hq, hR, hL]
 constructor
 ·intro h56
  have hs := sha_short (M.take (64 * q)) (rest.take a) q hml (by omega)
  rw [← hM, htl] at hs
  rw [hs]
  congr 2
  unfold endB
  rw [show 63 - a = (55 - a) + 8 by omega, ← List.replicate_append_replicate, ← List.cons_append, ← List.append_assoc, List.take_left' (by simp [htl]; omega)]
  simp
 ·intro h56
  have hs := sha_long (M.take (64 * q)) (rest.take a) q hml (by omega) (by omega)
  rw [← hM, htl] at hs
  rw [hs]
  congr 2
structure Two (w w' : World) (gs gb : Nat) (s : St8) (B : List UInt8) : Prop where
 fr : Fr Nothing w w'
 ss : Blk w' gs 129 (stV s).toArray
 bb : Blk w' gb 130 (B.map bvI).toArray
 os : w.heap.size ≤ gs
 ob : w.heap.size ≤ gb
theorem Two.ne {w w' : World} {gs gb : Nat} {s : St8} {B : List UInt8} (h : Two w w' gs gb s B) : gs ≠ gb := h.ss.ne_ h.bb (by decide)
theorem Two.put {w w' : World} {gs gb : Nat} {s : St8} {B : List UInt8} (h : Two w w' gs gb s B) (i : Nat) (x : UInt8) : Two w (w'.setCell ⟨gb, i, none⟩ (bvI x)) gs gb s (B.set i x) := by
 refine ⟨h.fr.setCell (fun hb => absurd hb (by have := h.ob; simp only; omega)) _, h.ss.far (p := ⟨gb, i, none⟩) h.ne _, ?_, h.os, h.ob⟩
 have := h.bb.set_ i (bvI x)
 rwa [List.setIfInBounds_toArray, ← List.map_set] at this
theorem Two.val {w w' : World} {gs gb : Nat} {s : St8} {B : List UInt8} {p : Addr} {x y : Int} (e : x = y) (h : Two w (w'.setCell p (.int .u8 y)) gs gb s B) : Two w (w'.setCell p (.int .u8 x)) gs gb s B := e ▸ h
theorem Two.setRange {w w' : World} {gs gb : Nat} {s : St8} {B : List UInt8} (h : Two w w' gs gb s B) (o : Nat) (X : List UInt8) (hx : o + X.length ≤ B.length) : Two w (w'.setCells gb o (X.map bvI)) gs gb s (laidOver B o X) := by
 refine ⟨Fr.setCells (fun hb => absurd hb (by have := h.ob; omega)) _ _ _ h.fr, h.ss.fr (Fr.setCells (T := fun k => k = gb) (fun _ => rfl) _ _ _ (Fr.refl _ _)) h.ne, ?_, h.os, h.ob⟩
 have := Blk.setCells (X.map bvI) o _ _ h.bb (by simpa using hx)
 unfold laidOver
 simpa [List.map_take, List.map_drop] using this
theorem Two.clear {w w' : World} {gs gb : Nat} {s : St8} {B : List UInt8} (h : Two w w' gs gb s B) (o n : Nat) (hx : o + n ≤ B.length) : Two w (w'.setCells gb o (List.replicate n (.int .u8 0))) gs gb s (laidOver B o (List.replicate n 0)) := by
 have := h.setRange o (List.replicate n 0) (by simpa using hx)
 rwa [List.map_replicate] at this
theorem Two.turned {w w' w'' : World} {gs gb : Nat} {s s' : St8} {B : List UInt8} (h : Two w w' gs gb s B) (hf : Fr (fun k => k = gs) w' w'') (hb : Blk w'' gs 129 ([] ++ stV s' ++ []).toArray) : Two w w'' gs gb s' B :=
 ⟨h.fr.then_ hf (fun i hi e => by have e' : i = gs := e; have := h.os; omega), by rwa [List.nil_append, List.append_nil] at hb, h.bb.fr hf (fun e => h.ne (Eq.symm e)), h.os, h.ob⟩
theorem Two.state {w w' : World} {gs gb : Nat} {s : St8} {B : List UInt8} (h : Two w w' gs gb s B) : Blk w' gs 129 ([] ++ stV s ++ []).toArray := by rw [List.nil_append, List.append_nil]; exact h.ss
theorem Two.cell {w w' : World} {gs gb : Nat} {s : St8} {B : List UInt8} (h : Two w w' gs gb s B) (hB : B.length = 64) (j : Nat) (hj : j < 64) : w'.cell? ⟨gb, j, none⟩ = some (bvI (B[j]?.getD 0)) := by
 rw [h.bb.cell, List.getElem?_toArray, List.getElem?_map, List.getElem?_eq_getElem (by omega)]
 rfl
theorem Two.cell0 {w w' : World} {gs gb : Nat} {s : St8} {B : List UInt8} (h : Two w w' gs gb s B) (hB : B.length = 64) (j : Nat) (hj : j < 64) : w'.cell? ⟨gb, 0 + j, none⟩ = some (bvI (B[j]?.getD 0)) := by
 rw [Nat.zero_add]; exact h.cell hB j hj
theorem run_clearB {w w' : World} {gs gb : Nat} {s : St8} {B : List UInt8} (h : Two w w' gs gb s B) (hB : B.length = 64) (o n c : Nat) (hn : 0 < n) (ho : o + n ≤ 64) (ty : TypeId) :
  (Builtin.clear_ #[28] ty #[.slice (some ⟨gb, o, none⟩) n c]).run Tryz.prog w' = .ok (.tuple #[]) (w'.setCells gb o (List.replicate n (.int .u8 0))) :=
 Lib.run_clear_slice w' 28 5 ty (.int .u8 0) Tryz.underlying28 zvU8 rfl rfl gb o n c hn (fun j hj => by rw [h.cell hB (o + j) (by omega)]; rfl) (fun _ _ => h.bb.frozen _)
theorem run_clearN (w : World) (A : Option Addr) (c : Nat) (ty : TypeId) : (Builtin.clear_ #[28] ty #[.slice A 0 c]).run Tryz.prog w = .ok (.tuple #[]) w := by
 cases A <;> simp [Builtin.clear_, run_underlying Tryz.underlying28]
theorem there_new {w : World} {g : Nat} {t : TypeId} {cs : Array Value} (h : Blk w g t cs) {n : Nat} (hn : cs.size = n) : w.there g 0 n := fun j hj => by
 rw [Nat.zero_add, h.cell, h.frozen]
 rw [Array.getElem?_eq_getElem (by omega)]
 exact ⟨rfl, rfl⟩
theorem cell_alloc_store {w : World} {g x : Nat} {o1 o2 : Obj} {RV : List Value} {i : Nat} {v : Value} (h : w.cell? ⟨g, i, none⟩ = some v) (hx : w.heap.size ≤ x) : (((w.alloc o1).alloc o2).drew.setCells x 0 RV).cell? ⟨g, i, none⟩ = some v := by
 rw [World.cell?_setCells_out _ _ _ _ _ (fun hb _ => absurd hb (by have := World.block_lt_of_cell? w _ h; simp only at this ⊢; omega))]
 exact Lib.cell?_alloc_some _ (Lib.cell?_alloc_some _ h)
theorem range_alloc_store {w : World} {g x o : Nat} {o1 o2 : Obj} {RV CV : List Value} (h : w.rangeAt g o CV) (hx : w.heap.size ≤ x) : (((w.alloc o1).alloc o2).drew.setCells x 0 RV).rangeAt g o CV := fun j v hv => cell_alloc_store (h j v hv) hx
theorem size_alloc_store {w : World} {g x : Nat} {o1 o2 : Obj} {RV : List Value} (h : g < w.heap.size) : g < (((w.alloc o1).alloc o2).drew.setCells x 0 RV).heap.size := by
 have := (Fr.setCells (T := fun _ => True) (a := w) (g := x) (fun _ => trivial) RV 0 _ ((((Fr.refl _ w).alloc o1).alloc o2).drew)).size
 omega
theorem two_ways {w : World} (s : St8) (B : List UInt8) (hB : B.length = 64) (cz : Array Value) (hz : cz.size = 64) :
  Two w (((w.alloc (.cells (stV s).toArray 129)).alloc (.cells cz 130)).drew.setCells (w.heap.size + 1) 0 (B.map bvI)) w.heap.size (w.heap.size + 1) s B ∧
  Two w (((w.alloc (.cells cz 130)).alloc (.cells (stV s).toArray 129)).drew.setCells w.heap.size 0 (B.map bvI)) (w.heap.size + 1) w.heap.size s B := by
 have e : ∀ o : Obj, (w.alloc o).heap.size = w.heap.size + 1 := fun o => by simp
 have hl : (B.map bvI).length = 64 := by rw [List.length_map, hB]
 refine ⟨⟨?_, ?_, ?_, Nat.le_refl _, by omega⟩, ⟨?_, ?_, ?_, by omega, Nat.le_refl _⟩⟩
 ·exact Fr.setCells (fun h => absurd h (by omega)) _ _ _ ((((Fr.refl _ w).alloc _).alloc _).drew)
 ·exact (((Blk.new w _ _).alloc _).drew).fr (Fr.setCells (T := fun k => k = w.heap.size + 1) (fun _ => rfl) _ _ _ (Fr.refl _ _)) (by omega)
 ·have b0 : Blk ((w.alloc (.cells (stV s).toArray 129)).alloc (.cells cz 130)).drew (w.heap.size + 1) 130 cz.toList.toArray := by
   have := Blk.new (w.alloc (.cells (stV s).toArray 129)) 130 cz
   rw [e] at this
   simpa using this.drew
  have := Blk.setCells (B.map bvI) 0 _ _ b0 (by simp [hl, hz])
  rw [Nat.zero_add, List.drop_of_length_le (by simp [hl, hz]), List.take_zero, List.nil_append, List.append_nil] at this
  exact this
 ·exact Fr.setCells (fun h => absurd h (by omega)) _ _ _ ((((Fr.refl _ w).alloc _).alloc _).drew)
 ·have b0 : Blk ((w.alloc (.cells cz 130)).alloc (.cells (stV s).toArray 129)).drew (w.heap.size + 1) 129 (stV s).toArray := by
   have := Blk.new (w.alloc (.cells cz 130)) 129 (stV s).toArray
   rw [e] at this
   exact this.drew
  exact b0.fr (Fr.setCells (T := fun k => k = w.heap.size) (fun _ => rfl) _ _ _ (Fr.refl _ _)) (by omega)
 ·have b0 : Blk ((w.alloc (.cells cz 130)).alloc (.cells (stV s).toArray 129)).drew w.heap.size 130 cz.toList.toArray := by
   have := (Blk.new w 130 cz).alloc (.cells (stV s).toArray 129)
   simpa using this.drew
  have := Blk.setCells (B.map bvI) 0 _ _ b0 (by simp [hl, hz])
  rw [Nat.zero_add, List.drop_of_length_le (by simp [hl, hz]), List.take_zero, List.nil_append, List.append_nil] at this
  exact this
end Go.Proofs.YtpnchdgplpdefaaGreatDoor
