/- sha256.Sum and sha256.Tagged. -/
import Derived.Test.YtpnchdgplpdefaaGreatDoorEnShaH
import Derived.Deep.RegionHeld3
import Derived.Test.YtpnchdgplpdefaaGreatDoorEnShaB
namespace Go.Proofs.YtpnchdgplpdefaaGreatDoor
open Go.RowKit
structure Ended (M : List UInt8) (L : Nat) (B : List UInt8) (s : St8) : Prop where
 len : B.length = 64
 ok : s.ok
 eq : digestS (blockS s (B.take 56 ++ len8 L)) = shaL M
theorem blockS_ok (s : St8) (b : List UInt8) : (blockS s b).ok := addS_ok _ _
theorem laid_all (B : List UInt8) (h : B.length = 64) : laidOver B 0 (List.replicate 64 0) = List.replicate 64 0 := by
 unfold laidOver
 rw [List.drop_of_length_le (by simp [h]), List.take_zero, List.nil_append, List.append_nil]
theorem dig_four {w : World} {g : Nat} {t : TypeId} {V : St8} {k : Nat} (h : Blk w g t ((digK V (4 * k)).map bvI).toArray) (hk : k < 8) :
  Blk ((((w.setCell ⟨g, 4 * k, none⟩ (.int .u8 ((vAt V k / 16777216 % 256 : Nat) : Int))).setCell ⟨g, 4 * k + 1, none⟩ (.int .u8 ((vAt V k / 65536 % 256 : Nat) : Int))).setCell ⟨g, 4 * k + 2, none⟩ (.int .u8 ((vAt V k / 256 % 256 : Nat) : Int))).setCell ⟨g, 4 * k + 3, none⟩ (.int .u8 ((vAt V k % 256 : Nat) : Int))) g t ((digK V (4 * k + 4)).map bvI).toArray := by
 have x0 : (digestS V)[4 * k]? = some (oct (vAt V k / 16777216)) := by simpa using dig_at V k 0 hk (by omega)
 have x1 : (digestS V)[4 * k + 1]? = some (oct (vAt V k / 65536)) := by simpa using dig_at V k 1 hk (by omega)
 have x2 : (digestS V)[4 * k + 2]? = some (oct (vAt V k / 256)) := by simpa using dig_at V k 2 hk (by omega)
 have x3 : (digestS V)[4 * k + 3]? = some (oct (vAt V k)) := by simpa using dig_at V k 3 hk (by omega)
 rw [← oct_bv, ← oct_bv, ← oct_bv, ← oct_bv]
 have h0 := h.set_ (4 * k) (bvI (oct (vAt V k / 16777216)))
 rw [List.setIfInBounds_toArray, digK_put V (4 * k) _ (by omega) x0] at h0
 have h1 := h0.set_ (4 * k + 1) (bvI (oct (vAt V k / 65536)))
 rw [List.setIfInBounds_toArray, digK_put V (4 * k + 1) _ (by omega) x1] at h1
 have h2 := h1.set_ (4 * k + 2) (bvI (oct (vAt V k / 256)))
 rw [List.setIfInBounds_toArray, digK_put V (4 * k + 2) _ (by omega) x2] at h2
 have h3 := h2.set_ (4 * k + 3) (bvI (oct (vAt V k)))
 rw [List.setIfInBounds_toArray, digK_put V (4 * k + 3) _ (by omega) x3] at h3
 exact h3
theorem dig_cell {w : World} {g : Nat} {t : TypeId} {V : St8} {k i : Nat} (h : Blk w g t ((digK V k).map bvI).toArray) (hk : k ≤ 32) (hi : i < 32) : ∃ u, w.cell? ⟨g, i, none⟩ = some u := by
 have hlen : i < ((digK V k).map bvI).length := by rw [List.length_map, digK_length V k hk]; exact hi
 rw [h.cell, List.getElem?_toArray]
 exact ⟨_, List.getElem?_eq_getElem hlen⟩
theorem lenK_8 (B : List UInt8) (L : Nat) : lenK B L 8 = B.take 56 ++ len8 L := rfl
set_option maxRecDepth 100000 in
set_option maxHeartbeats 4000000 in
theorem HSum_any (g : Nat) (M rest : List UInt8) (w : World) (hH : HashAt w g M rest) (hT : ShaTab w) (hL : M.length ≤ 1099511627776) (hL1 : 1 ≤ M.length) :
  Calls Tryz.prog 71 #[.pointer (some ⟨g, 0, none⟩)] w (Same' w (.agg ((shaL M).map bvI).toArray)) := by
 have HOK := Lib.hid hH.ok
 have HE := Lib.hid (sha_end M rest hH.ok (M.length % 64) rfl)
 have HST := Lib.hid (runB_ok initS M initS_ok (M.length / 64))
 have HTab := Lib.hid hT
 obtain ⟨hH, hr, hr2⟩ := hH
 clear hr2
 generalize runB initS M (M.length / 64) = ST at *
 obtain ⟨RA, hRA⟩ : ∃ RA, RA = ((shaL M).map bvI).toArray := ⟨_, rfl⟩
 rw [← hRA]
 have HRA := Lib.hid hRA
 obtain ⟨L, hLL⟩ : ∃ L, L = M.length := ⟨_, rfl⟩
 have HLL := Lib.hid hLL
 obtain ⟨a, ha⟩ : ∃ a, a = L % 64 := ⟨_, rfl⟩
 have ha64 : a < 64 := by omega
 rw [← hLL, ← ha] at HE
 rw [← hLL] at hH hL hL1
 have HA := Lib.hid ha
 have hm : ((L : Nat) : Int).tmod 64 = (a : Int) := by rw [Int.tmod_eq_emod_of_nonneg (by omega), ha]; omega
 clear hRA hT hLL ha
 have c0 : w.cell? ⟨g, 0, none⟩ = some (.int .i64 (L : Nat)) := hH.cell 0
 have r1 : w.rangeAt g 1 (stV ST) := by
  intro j v hv
  rw [← hv]
  exact hH.mid (pre := [.int .i64 L]) (os := 1) rfl (List.getElem?_eq_some_iff.1 hv).1
 have r9 : w.rangeAt g 9 (rest.map bvI) := by
  intro j v hv
  have hj : j < 64 := by have := (List.getElem?_eq_some_iff.1 hv).1; simpa [hr] using this
  rw [hash_cell hH hr j hj, ← hv, List.getElem?_map, List.getElem?_eq_getElem (by omega)]
  rfl
 have HB := Lib.hid hH
 have HRL := Lib.hid hr
 have ty8 := Tryz.underlying129
 have ty64 := Tryz.underlying130
 have i8 := len8s ST
 have i64 : (Tryz.prog.info? 130).map (·.size) = some (rest.map bvI).length := by rw [List.length_map, hr]; exact info64b
 have hlen : (rest.map bvI).length = 64 := by rw [List.length_map, hr]
 have hone : ∀ v ∈ rest.map bvI, v.oneCell' = true := by
  intro v hv
  obtain ⟨x, _, rfl⟩ := List.mem_map.1 hv
  rfl
 clear hr
 generalize hB : rest.map bvI = RV at *
 have HRV : Hid (RV = rest.map bvI) := hB.symm
 clear hB hH
 go_enter Tryz.func71, Tryz.ntmps71
 go_wp2_with (refine wpList_allocBlk rfl 91 rfl zero32 zvD zero32c rfl ?_)
 intro w1 n1
 have N1 := Lib.hid n1
 have c0' := n1.fr.cellSome c0 (fun x => x)
 have s0 := n1.fr.cellSome (r1 0 _ rfl) (fun x => x)
 have s1 := n1.fr.cellSome (r1 1 _ rfl) (fun x => x)
 have s2 := n1.fr.cellSome (r1 2 _ rfl) (fun x => x)
 have s3 := n1.fr.cellSome (r1 3 _ rfl) (fun x => x)
 have s4 := n1.fr.cellSome (r1 4 _ rfl) (fun x => x)
 have s5 := n1.fr.cellSome (r1 5 _ rfl) (fun x => x)
 have s6 := n1.fr.cellSome (r1 6 _ rfl) (fun x => x)
 have s7 := n1.fr.cellSome (r1 7 _ rfl) (fun x => x)
 simp only [u32v, Nat.reduceAdd] at s0 s1 s2 s3 s4 s5 s6 s7
 have r9' : w1.rangeAt g 9 RV := fun j v hv => n1.fr.cellSome (r9 j v hv) (fun x => x)
 have g1' : g < w1.heap.size := Nat.lt_of_lt_of_le HB.out.lt n1.fr.size
 have HG : Hid (g < w1.heap.size ∧ w.heap.size < w1.heap.size) := ⟨g1', by have := n1.size; omega⟩
 clear n1 c0 r1 r9
 go_upto_region 3 with fail
 have t1 : ((w1.alloc (.cells #[.int .u32 (ST.a : Nat), .int .u32 (ST.b : Nat), .int .u32 (ST.c : Nat), .int .u32 (ST.d : Nat), .int .u32 (ST.e : Nat), .int .u32 (ST.f : Nat), .int .u32 (ST.g : Nat), .int .u32 (ST.h : Nat)] 129)).alloc (.cells #[.int .u8 0, .int .u8 0, .int .u8 0, .int .u8 0, .int .u8 0, .int .u8 0, .int .u8 0, .int .u8 0, .int .u8 0, .int .u8 0, .int .u8 0, .int .u8 0, .int .u8 0, .int .u8 0, .int .u8 0, .int .u8 0, .int .u8 0, .int .u8 0, .int .u8 0, .int .u8 0, .int .u8 0, .int .u8 0, .int .u8 0, .int .u8 0, .int .u8 0, .int .u8 0, .int .u8 0, .int .u8 0, .int .u8 0, .int .u8 0, .int .u8 0, .int .u8 0, .int .u8 0, .int .u8 0, .int .u8 0, .int .u8 0, .int .u8 0, .int .u8 0, .int .u8 0, .int .u8 0, .int .u8 0, .int .u8 0, .int .u8 0, .int .u8 0, .int .u8 0, .int .u8 0, .int .u8 0, .int .u8 0, .int .u8 0, .int .u8 0, .int .u8 0, .int .u8 0, .int .u8 0, .int .u8 0, .int .u8 0, .int .u8 0, .int .u8 0, .int .u8 0, .int .u8 0, .int .u8 0, .int .u8 0, .int .u8 0, .int .u8 0, .int .u8 0] 130)).drew.there (w1.heap.size + 1) 0 64 := by
  have h := (Blk.new (w1.alloc (.cells #[.int .u32 (ST.a : Nat), .int .u32 (ST.b : Nat), .int .u32 (ST.c : Nat), .int .u32 (ST.d : Nat), .int .u32 (ST.e : Nat), .int .u32 (ST.f : Nat), .int .u32 (ST.g : Nat), .int .u32 (ST.h : Nat)] 129)) 130 #[.int .u8 0, .int .u8 0, .int .u8 0, .int .u8 0, .int .u8 0, .int .u8 0, .int .u8 0, .int .u8 0, .int .u8 0, .int .u8 0, .int .u8 0, .int .u8 0, .int .u8 0, .int .u8 0, .int .u8 0, .int .u8 0, .int .u8 0, .int .u8 0, .int .u8 0, .int .u8 0, .int .u8 0, .int .u8 0, .int .u8 0, .int .u8 0, .int .u8 0, .int .u8 0, .int .u8 0, .int .u8 0, .int .u8 0, .int .u8 0, .int .u8 0, .int .u8 0, .int .u8 0, .int .u8 0, .int .u8 0, .int .u8 0, .int .u8 0, .int .u8 0, .int .u8 0, .int .u8 0, .int .u8 0, .int .u8 0, .int .u8 0, .int .u8 0, .int .u8 0, .int .u8 0, .int .u8 0, .int .u8 0, .int .u8 0, .int .u8 0, .int .u8 0, .int .u8 0, .int .u8 0, .int .u8 0, .int .u8 0, .int .u8 0, .int .u8 0, .int .u8 0, .int .u8 0, .int .u8 0, .int .u8 0, .int .u8 0, .int .u8 0, .int .u8 0]).drew
  rw [show (w1.alloc (.cells #[.int .u32 (ST.a : Nat), .int .u32 (ST.b : Nat), .int .u32 (ST.c : Nat), .int .u32 (ST.d : Nat), .int .u32 (ST.e : Nat), .int .u32 (ST.f : Nat), .int .u32 (ST.g : Nat), .int .u32 (ST.h : Nat)] 129)).heap.size = w1.heap.size + 1 by simp] at h
  exact there_new h rfl
 have t2 : ((w1.alloc (.cells #[.int .u8 0, .int .u8 0, .int .u8 0, .int .u8 0, .int .u8 0, .int .u8 0, .int .u8 0, .int .u8 0, .int .u8 0, .int .u8 0, .int .u8 0, .int .u8 0, .int .u8 0, .int .u8 0, .int .u8 0, .int .u8 0, .int .u8 0, .int .u8 0, .int .u8 0, .int .u8 0, .int .u8 0, .int .u8 0, .int .u8 0, .int .u8 0, .int .u8 0, .int .u8 0, .int .u8 0, .int .u8 0, .int .u8 0, .int .u8 0, .int .u8 0, .int .u8 0, .int .u8 0, .int .u8 0, .int .u8 0, .int .u8 0, .int .u8 0, .int .u8 0, .int .u8 0, .int .u8 0, .int .u8 0, .int .u8 0, .int .u8 0, .int .u8 0, .int .u8 0, .int .u8 0, .int .u8 0, .int .u8 0, .int .u8 0, .int .u8 0, .int .u8 0, .int .u8 0, .int .u8 0, .int .u8 0, .int .u8 0, .int .u8 0, .int .u8 0, .int .u8 0, .int .u8 0, .int .u8 0, .int .u8 0, .int .u8 0, .int .u8 0, .int .u8 0] 130)).alloc (.cells #[.int .u32 (ST.a : Nat), .int .u32 (ST.b : Nat), .int .u32 (ST.c : Nat), .int .u32 (ST.d : Nat), .int .u32 (ST.e : Nat), .int .u32 (ST.f : Nat), .int .u32 (ST.g : Nat), .int .u32 (ST.h : Nat)] 129)).drew.there w1.heap.size 0 64 :=
  there_new ((Blk.new w1 130 #[.int .u8 0, .int .u8 0, .int .u8 0, .int .u8 0, .int .u8 0, .int .u8 0, .int .u8 0, .int .u8 0, .int .u8 0, .int .u8 0, .int .u8 0, .int .u8 0, .int .u8 0, .int .u8 0, .int .u8 0, .int .u8 0, .int .u8 0, .int .u8 0, .int .u8 0, .int .u8 0, .int .u8 0, .int .u8 0, .int .u8 0, .int .u8 0, .int .u8 0, .int .u8 0, .int .u8 0, .int .u8 0, .int .u8 0, .int .u8 0, .int .u8 0, .int .u8 0, .int .u8 0, .int .u8 0, .int .u8 0, .int .u8 0, .int .u8 0, .int .u8 0, .int .u8 0, .int .u8 0, .int .u8 0, .int .u8 0, .int .u8 0, .int .u8 0, .int .u8 0, .int .u8 0, .int .u8 0, .int .u8 0, .int .u8 0, .int .u8 0, .int .u8 0, .int .u8 0, .int .u8 0, .int .u8 0, .int .u8 0, .int .u8 0, .int .u8 0, .int .u8 0, .int .u8 0, .int .u8 0, .int .u8 0, .int .u8 0, .int .u8 0, .int .u8 0]).alloc _).drew rfl
 go_cut [0, 2, 3, 4, 5] (fun p0 p2 p3 p4 p5 wx => ∃ gs gb, p0 = .pointer (some ⟨g, 0, none⟩) ∧ p2 = .pointer (some ⟨w.heap.size, 0, none⟩) ∧ p3 = .pointer (some ⟨gs, 0, none⟩) ∧ p4 = .pointer (some ⟨gb, 0, none⟩) ∧ p5 = .int .i64 a ∧ Two w1 wx gs gb ST rest)
 case first =>
  go_region_held3 (fun w' => w'.cell? ⟨g, 0, none⟩ = some (.int .i64 (L : Nat)) ∧ w'.cell? ⟨g, 1, none⟩ = some (.int .u32 (ST.a : Nat)) ∧ w'.cell? ⟨g, 2, none⟩ = some (.int .u32 (ST.b : Nat)) ∧ w'.cell? ⟨g, 3, none⟩ = some (.int .u32 (ST.c : Nat)) ∧ w'.cell? ⟨g, 4, none⟩ = some (.int .u32 (ST.d : Nat)) ∧ w'.cell? ⟨g, 5, none⟩ = some (.int .u32 (ST.e : Nat)) ∧ w'.cell? ⟨g, 6, none⟩ = some (.int .u32 (ST.f : Nat)) ∧ w'.cell? ⟨g, 7, none⟩ = some (.int .u32 (ST.g : Nat)) ∧ w'.cell? ⟨g, 8, none⟩ = some (.int .u32 (ST.h : Nat)) ∧ w'.rangeAt g 9 RV ∧ g < w'.heap.size) ((go_split_ands; (repeat' constructor) <;> first | assumption | (refine cell_alloc_store (by assumption) (by omega)) | (refine range_alloc_store (by assumption) (by omega)) | (refine size_alloc_store (by assumption)) | ((repeat refine Lib.cell?_alloc_some _ ?_); assumption) | ((repeat refine World.rangeAt_alloc ?_ _); assumption) | (simp; omega))) (first | fail)
  ·go_wp2_with fail
   go_meet
   have h := (two_ways (w := w1) ST rest HRL.out #[.int .u8 0, .int .u8 0, .int .u8 0, .int .u8 0, .int .u8 0, .int .u8 0, .int .u8 0, .int .u8 0, .int .u8 0, .int .u8 0, .int .u8 0, .int .u8 0, .int .u8 0, .int .u8 0, .int .u8 0, .int .u8 0, .int .u8 0, .int .u8 0, .int .u8 0, .int .u8 0, .int .u8 0, .int .u8 0, .int .u8 0, .int .u8 0, .int .u8 0, .int .u8 0, .int .u8 0, .int .u8 0, .int .u8 0, .int .u8 0, .int .u8 0, .int .u8 0, .int .u8 0, .int .u8 0, .int .u8 0, .int .u8 0, .int .u8 0, .int .u8 0, .int .u8 0, .int .u8 0, .int .u8 0, .int .u8 0, .int .u8 0, .int .u8 0, .int .u8 0, .int .u8 0, .int .u8 0, .int .u8 0, .int .u8 0, .int .u8 0, .int .u8 0, .int .u8 0, .int .u8 0, .int .u8 0, .int .u8 0, .int .u8 0, .int .u8 0, .int .u8 0, .int .u8 0, .int .u8 0, .int .u8 0, .int .u8 0, .int .u8 0, .int .u8 0] rfl).1
   rw [← HRV.out] at h
   exact ⟨_, _, rfl, rfl, rfl, rfl, rfl, h⟩
  ·go_wp2_with fail
   go_meet
   have h := (two_ways (w := w1) ST rest HRL.out #[.int .u8 0, .int .u8 0, .int .u8 0, .int .u8 0, .int .u8 0, .int .u8 0, .int .u8 0, .int .u8 0, .int .u8 0, .int .u8 0, .int .u8 0, .int .u8 0, .int .u8 0, .int .u8 0, .int .u8 0, .int .u8 0, .int .u8 0, .int .u8 0, .int .u8 0, .int .u8 0, .int .u8 0, .int .u8 0, .int .u8 0, .int .u8 0, .int .u8 0, .int .u8 0, .int .u8 0, .int .u8 0, .int .u8 0, .int .u8 0, .int .u8 0, .int .u8 0, .int .u8 0, .int .u8 0, .int .u8 0, .int .u8 0, .int .u8 0, .int .u8 0, .int .u8 0, .int .u8 0, .int .u8 0, .int .u8 0, .int .u8 0, .int .u8 0, .int .u8 0, .int .u8 0, .int .u8 0, .int .u8 0, .int .u8 0, .int .u8 0, .int .u8 0, .int .u8 0, .int .u8 0, .int .u8 0, .int .u8 0, .int .u8 0, .int .u8 0, .int .u8 0, .int .u8 0, .int .u8 0, .int .u8 0, .int .u8 0, .int .u8 0, .int .u8 0] rfl).2
   rw [← HRV.out] at h
   exact ⟨_, _, rfl, rfl, rfl, rfl, rfl, h⟩
 case rest =>
  clear t1 t2
  obtain ⟨gs, gb, rfl, rfl, rfl, rfl, rfl, hTw⟩ := hcut
  clear s0 s1 s2 s3 s4 s5 s6 s7 r9' i8 i64 hlen hone hm ty8 ty64 HRV
  have c1 : wc.cell? ⟨g, 0, none⟩ = some (.int .i64 (L : Nat)) := hTw.fr.cellSome c0' (fun x => x)
  have tb : ((L : Int) == 0) = false := by rw [beq_eq_false_iff_ne]; omega
  have haI : (a : Int) < 64 := by omega
  have cb := hTw.cell HRL.out a ha64
  have fb : wc.frozen? ⟨gb, a, none⟩ = false := hTw.bb.frozen a
  have T2 : Hid (Two w1 (wc.setCell ⟨gb, a, none⟩ (.int .u8 128)) gs gb ST (rest.set a 128)) := hTw.put a 128
  clear hTw
  go_upto_region 7 with fail
  clear c1 cb fb
  generalize wc.setCell ⟨gb, a, none⟩ (.int .u8 128) = w2 at *
  obtain ⟨p, hp⟩ : ∃ p, p = w.heap.size := ⟨_, rfl⟩
  rw [← hp]
  have HP := Lib.hid hp
  clear hp
  go_cut [0, 2, 3, 4, 5] (fun p0 p2 p3 p4 p5 wx => p0 = .pointer (some ⟨g, 0, none⟩) ∧ p2 = .pointer (some ⟨p, 0, none⟩) ∧ p3 = .pointer (some ⟨gs, 0, none⟩) ∧ p4 = .pointer (some ⟨gb, 0, none⟩) ∧ p5 = .int .i64 a ∧ Two w1 wx gs gb ST (endB rest a))
  case first =>
   by_cases h63 : a = 63
   ·have hcl := fun A ty => run_clearN w2 A 0 ty
    rw [h63, endB_63 rest HRL.out] at T2
    have HH := Lib.hid h63
    have x1 : IntKind.i64.wrap ((a : Int) + 1) = 64 := by rw [h63]; rfl
    have x2 : (a : Int) + 1 = 64 := by omega
    clear h63
    go_wp2_with (simp only [hcl])
    go_meet
    exact ⟨rfl, rfl, rfl, rfl, rfl, by rw [HH.out]; exact T2.out⟩
   ·obtain ⟨a1, ha1⟩ : ∃ a1, a1 = a + 1 := ⟨_, rfl⟩
    have hcl := run_clearB T2.out (by simp [HRL.out]) a1 (64 - a1) (64 - a1) (by omega) (by omega)
    have HN : Hid (Two w1 (w2.setCells gb a1 (List.replicate (64 - a1) (.int .u8 0))) gs gb ST (endB rest a)) := by
     have h := T2.out.clear a1 (64 - a1) (by simp [HRL.out]; omega)
     rw [ha1, show 64 - (a + 1) = 63 - a by omega, endB_of rest a HRL.out ha64] at h
     rw [ha1, show 64 - (a + 1) = 63 - a by omega]
     exact h
    have x1 : IntKind.i64.wrap ((a : Int) + 1) = (a1 : Int) := (IntWalk.i64_in _ (by omega)).trans (by omega)
    have x2 : (a : Int) + 1 = (a1 : Int) := by omega
    have x3 : (a1 : Int) ≤ 64 := by omega
    have x4 : ¬ 64 = a1 := by omega
    have x5 : a1 ≤ 64 := by omega
    clear ha1 h63
    go_wp2_with (simp only [hcl])
    go_meet
    exact ⟨rfl, rfl, rfl, rfl, rfl, HN.out⟩
  case rest =>
   obtain ⟨rfl, rfl, rfl, rfl, rfl, hTw⟩ := hcut
   have T3 := Lib.hid hTw
   clear hTw T2
   go_upto_if 39 with fail
   go_cut [0, 2, 3, 4] (fun p0 p2 p3 p4 wx => p0 = .pointer (some ⟨g, 0, none⟩) ∧ p2 = .pointer (some ⟨p, 0, none⟩) ∧ p3 = .pointer (some ⟨gs, 0, none⟩) ∧ p4 = .pointer (some ⟨gb, 0, none⟩) ∧ ∃ s' B, Two w1 wx gs gb s' B ∧ Ended M L B s')
   case first =>
    have KTab : Hid (ShaTab wc) := HTab.out.fr0 (N1.out.fr.trans T3.out.fr)
    by_cases h56 : 56 ≤ a
    ·have CC := Lib.hid (compress_any gs 0 gb 0 129 [] [] ST HST.out (endB rest a) wc T3.out.state rfl (T3.out.cell0 (endB_length rest a HRL.out ha64)) KTab.out.kk)
     have HE2 := Lib.hid (HE.out.2 h56)
     have HS2 := Lib.hid (blockS_ok ST (endB rest a))
     generalize blockS ST (endB rest a) = S2 at *
     have hd : decide ((56 : Int) ≤ (a : Int)) = true := by simp; omega
     go_wp2_with fail
     refine CC.out.mono ?_
     rintro e w4 ⟨rfl, f4, b4⟩
     have T4 := Lib.hid (T3.out.turned f4 b4)
     have hcl := run_clearB T4.out (endB_length rest a HRL.out ha64) 0 64 64 (by omega) (by omega)
     have T5 : Hid (Two w1 (w4.setCells gb 0 (List.replicate 64 (.int .u8 0))) gs gb S2 (List.replicate 64 0)) := by
      have h := T4.out.clear 0 64 (by rw [endB_length rest a HRL.out ha64]; omega)
      rw [laid_all _ (endB_length rest a HRL.out ha64)] at h
      exact h
     clear f4 b4 CC
     go_wp2
     go_meet
     exact ⟨rfl, rfl, rfl, rfl, S2, _, T5.out, by simp, HS2.out, HE2.out⟩
    ·have HE1 := Lib.hid (HE.out.1 (by omega))
     have hd : decide ((56 : Int) ≤ (a : Int)) = false := by simp; omega
     go_wp2
     go_meet
     exact ⟨rfl, rfl, rfl, rfl, ST, _, T3.out, endB_length rest a HRL.out ha64, HST.out, HE1.out⟩
   case rest =>
    clear HE T3
    obtain ⟨rfl, rfl, rfl, rfl, s', B, hTw, hEn⟩ := hcut
    have c2 : wc.cell? ⟨g, 0, none⟩ = some (.int .i64 (L : Nat)) := hTw.fr.cellSome c0' (fun x => x)
    have HL64 := Lib.hid hEn.len
    have HEN := Lib.hid hEn
    have T6 : Hid (Two w1 wc gs gb s' (lenK B L 0)) := by simp only [Hid]; rw [lenK_zero B L hEn.len]; exact hTw
    clear hTw hEn
    have hn8 : (8 : Int) * (L : Int) ≤ 8796093022208 := by omega
    go_wp2
    go_loopw [48] (fun i wr => ∃ k : Nat, k ≤ 8 ∧ i = .int .i64 k ∧ Two w1 wr gs gb s' (lenK B L k)) (fun i _ => 8 - (intOf i).toNat)
    case atStart => exact ⟨0, by omega, rfl, T6.out⟩
    case round =>
    obtain ⟨k, hk, rfl, hTw⟩ := hrel
    have KT := Lib.hid hTw
    clear T6 c2 hTw
    have hc : k = 0 ∨ k = 1 ∨ k = 2 ∨ k = 3 ∨ k = 4 ∨ k = 5 ∨ k = 6 ∨ k = 7 ∨ k = 8 := by omega
    clear hk
    rcases hc with rfl | rfl | rfl | rfl | rfl | rfl | rfl | rfl | rfl
    ·have h := KT.out.put (63 - 0) (oct (8 * L))
     rw [lenK_put B L 0 HL64.out (by omega) _ (by simp [len8]), oct_bv] at h
     have HN : Hid (Two w1 (wr.setCell ⟨gb, 63 - 0, none⟩ (.int .u8 ((8 * L % 256 : Nat) : Int))) gs gb s' (lenK B L (0 + 1))) := h
     have cb : wr.cell? ⟨gb, 63 - 0, none⟩ = some _ := KT.out.cell (lenK_length _ _ _ HL64.out (by omega)) (63 - 0) (by omega)
     have fb : wr.frozen? ⟨gb, 63 - 0, none⟩ = false := KT.out.bb.frozen _
     simp only [Nat.reduceSub] at cb fb HN
     clear h KT
     go_wp2
     go_roundw
     case rel => exact ⟨1, by omega, by go_num, Two.val (by omega) HN.out⟩
     case measure => simp [intOf]
    ·have h := KT.out.put (63 - 1) (oct (8 * L / 256))
     rw [lenK_put B L 1 HL64.out (by omega) _ (by simp [len8]), oct_bv] at h
     have HN : Hid (Two w1 (wr.setCell ⟨gb, 63 - 1, none⟩ (.int .u8 ((8 * L / 256 % 256 : Nat) : Int))) gs gb s' (lenK B L (1 + 1))) := h
     have cb : wr.cell? ⟨gb, 63 - 1, none⟩ = some _ := KT.out.cell (lenK_length _ _ _ HL64.out (by omega)) (63 - 1) (by omega)
     have fb : wr.frozen? ⟨gb, 63 - 1, none⟩ = false := KT.out.bb.frozen _
     simp only [Nat.reduceSub] at cb fb HN
     clear h KT
     go_wp2
     go_roundw
     case rel => exact ⟨2, by omega, by go_num, Two.val (by omega) HN.out⟩
     case measure => simp [intOf]
    ·have h := KT.out.put (63 - 2) (oct (8 * L / 65536))
     rw [lenK_put B L 2 HL64.out (by omega) _ (by simp [len8]), oct_bv] at h
     have HN : Hid (Two w1 (wr.setCell ⟨gb, 63 - 2, none⟩ (.int .u8 ((8 * L / 65536 % 256 : Nat) : Int))) gs gb s' (lenK B L (2 + 1))) := h
     have cb : wr.cell? ⟨gb, 63 - 2, none⟩ = some _ := KT.out.cell (lenK_length _ _ _ HL64.out (by omega)) (63 - 2) (by omega)
     have fb : wr.frozen? ⟨gb, 63 - 2, none⟩ = false := KT.out.bb.frozen _
     simp only [Nat.reduceSub] at cb fb HN
     clear h KT
     go_wp2
     go_roundw
     case rel => exact ⟨3, by omega, by go_num, Two.val (by omega) HN.out⟩
     case measure => simp [intOf]
    ·have h := KT.out.put (63 - 3) (oct (8 * L / 16777216))
     rw [lenK_put B L 3 HL64.out (by omega) _ (by simp [len8]), oct_bv] at h
     have HN : Hid (Two w1 (wr.setCell ⟨gb, 63 - 3, none⟩ (.int .u8 ((8 * L / 16777216 % 256 : Nat) : Int))) gs gb s' (lenK B L (3 + 1))) := h
     have cb : wr.cell? ⟨gb, 63 - 3, none⟩ = some _ := KT.out.cell (lenK_length _ _ _ HL64.out (by omega)) (63 - 3) (by omega)
     have fb : wr.frozen? ⟨gb, 63 - 3, none⟩ = false := KT.out.bb.frozen _
     simp only [Nat.reduceSub] at cb fb HN
     clear h KT
     go_wp2
     go_roundw
     case rel => exact ⟨4, by omega, by go_num, Two.val (by omega) HN.out⟩
     case measure => simp [intOf]
    ·have h := KT.out.put (63 - 4) (oct (8 * L / 4294967296))
     rw [lenK_put B L 4 HL64.out (by omega) _ (by simp [len8]), oct_bv] at h
     have HN : Hid (Two w1 (wr.setCell ⟨gb, 63 - 4, none⟩ (.int .u8 ((8 * L / 4294967296 % 256 : Nat) : Int))) gs gb s' (lenK B L (4 + 1))) := h
     have cb : wr.cell? ⟨gb, 63 - 4, none⟩ = some _ := KT.out.cell (lenK_length _ _ _ HL64.out (by omega)) (63 - 4) (by omega)
     have fb : wr.frozen? ⟨gb, 63 - 4, none⟩ = false := KT.out.bb.frozen _
     simp only [Nat.reduceSub] at cb fb HN
     clear h KT
     go_wp2
     go_roundw
     case rel => exact ⟨5, by omega, by go_num, Two.val (by omega) HN.out⟩
     case measure => simp [intOf]
    ·have h := KT.out.put (63 - 5) (oct (8 * L / 1099511627776))
     rw [lenK_put B L 5 HL64.out (by omega) _ (by simp [len8]), oct_bv] at h
     have HN : Hid (Two w1 (wr.setCell ⟨gb, 63 - 5, none⟩ (.int .u8 ((8 * L / 1099511627776 % 256 : Nat) : Int))) gs gb s' (lenK B L (5 + 1))) := h
     have cb : wr.cell? ⟨gb, 63 - 5, none⟩ = some _ := KT.out.cell (lenK_length _ _ _ HL64.out (by omega)) (63 - 5) (by omega)
     have fb : wr.frozen? ⟨gb, 63 - 5, none⟩ = false := KT.out.bb.frozen _
     simp only [Nat.reduceSub] at cb fb HN
     clear h KT
     go_wp2
     go_roundw
     case rel => exact ⟨6, by omega, by go_num, Two.val (by omega) HN.out⟩
     case measure => simp [intOf]
    ·have h := KT.out.put (63 - 6) (oct (8 * L / 281474976710656))
     rw [lenK_put B L 6 HL64.out (by omega) _ (by simp [len8]), oct_bv] at h
     have HN : Hid (Two w1 (wr.setCell ⟨gb, 63 - 6, none⟩ (.int .u8 ((8 * L / 281474976710656 % 256 : Nat) : Int))) gs gb s' (lenK B L (6 + 1))) := h
     have cb : wr.cell? ⟨gb, 63 - 6, none⟩ = some _ := KT.out.cell (lenK_length _ _ _ HL64.out (by omega)) (63 - 6) (by omega)
     have fb : wr.frozen? ⟨gb, 63 - 6, none⟩ = false := KT.out.bb.frozen _
     simp only [Nat.reduceSub] at cb fb HN
     clear h KT
     go_wp2
     go_roundw
     case rel => exact ⟨7, by omega, by go_num, Two.val (by omega) HN.out⟩
     case measure => simp [intOf]
    ·have h := KT.out.put (63 - 7) (oct (8 * L / 72057594037927936))
     rw [lenK_put B L 7 HL64.out (by omega) _ (by simp [len8]), oct_bv] at h
     have HN : Hid (Two w1 (wr.setCell ⟨gb, 63 - 7, none⟩ (.int .u8 ((8 * L / 72057594037927936 % 256 : Nat) : Int))) gs gb s' (lenK B L (7 + 1))) := h
     have cb : wr.cell? ⟨gb, 63 - 7, none⟩ = some _ := KT.out.cell (lenK_length _ _ _ HL64.out (by omega)) (63 - 7) (by omega)
     have fb : wr.frozen? ⟨gb, 63 - 7, none⟩ = false := KT.out.bb.frozen _
     simp only [Nat.reduceSub] at cb fb HN
     clear h KT
     go_wp2
     go_roundw
     case rel => exact ⟨8, by omega, by go_num, Two.val (by omega) HN.out⟩
     case measure => simp [intOf]
    ·rw [lenK_8] at KT
     have KTab : Hid (ShaTab wr) := HTab.out.fr0 (N1.out.fr.trans KT.out.fr)
     have hBl : (B.take 56 ++ len8 L).length = 64 := by simp [HL64.out, len8_length]
     have CC := Lib.hid (compress_any gs 0 gb 0 129 [] [] s' HEN.out.ok (B.take 56 ++ len8 L) wr KT.out.state rfl (KT.out.cell0 hBl) KTab.out.kk)
     have HE3 := Lib.hid HEN.out.eq
     have HV := Lib.hid (blockS_ok s' (B.take 56 ++ len8 L))
     generalize blockS s' (B.take 56 ++ len8 L) = V at *
     clear hBl
     go_wp2_with fail
     refine CC.out.mono ?_
     rintro e w4 ⟨rfl, f4, b4⟩
     have T7 := Lib.hid (KT.out.turned f4 b4)
     clear f4 b4 CC KT
     go_wp2_with (refine wpList_allocBlk rfl 91 rfl zero32 zvD zero32c rfl ?_)
     intro w5 n5
     have T8 : Hid (Two w1 w5 gs gb V (B.take 56 ++ len8 L)) := ⟨T7.out.fr.trans n5.fr, T7.out.ss.fr n5.fr (fun x => x), T7.out.bb.fr n5.fr (fun x => x), T7.out.os, T7.out.ob⟩
     have E6 := Lib.hid n5.blk
     have E1 : Hid (Blk w5 p 91 zero32c) := by rw [HP.out]; exact N1.out.blk.fr T8.out.fr (fun x => x)
     have FA : Hid (Fr Nothing w w5) := N1.out.fr.trans T8.out.fr
     have HN2 : Hid (p < w4.heap.size ∧ gs < w4.heap.size ∧ w.heap.size ≤ w4.heap.size ∧ w.heap.size ≤ p) := ⟨by have := T7.out.fr.size; have := HG.out; have := HP.out; omega, T7.out.ss.lt, (N1.out.fr.trans T7.out.fr).size, by have := HP.out; omega⟩
     clear n5 T7 KTab
     generalize w4.heap.size = g6 at *
     obtain ⟨g0', g1'', g2', g3', g4', g5', g6', g7'⟩ := st_cells0 T8.out.ss
     go_wp2
     go_loopw [62] (fun i wr => ∃ k : Nat, k ≤ 8 ∧ i = .int .i64 k ∧ Blk wr g6 91 ((digK V (4 * k)).map bvI).toArray ∧ Fr (fun k => k = g6) w5 wr) (fun i _ => 8 - (intOf i).toNat)
     case atStart => exact ⟨0, by omega, rfl, by rw [Nat.mul_zero, digK_zero]; exact E6.out, Fr.refl _ _⟩
     case round =>
     obtain ⟨k, hk, rfl, hb, hf⟩ := hrel
     have KD := Lib.hid hb
     have KDF := Lib.hid hf
     clear hb hf E6 g0' g1'' g2' g3' g4' g5' g6' g7'
     by_cases hk8 : k < 8
     ·have hix := idx8_any wr V k hk8
      have lq := vAt_lt V HV.out k
      have D := dig_four KD.out hk8
      have DF : Hid (Fr (fun k => k = g6) w5 ((((wr.setCell ⟨g6, 4 * k, none⟩ (.int .u8 ((vAt V k / 16777216 % 256 : Nat) : Int))).setCell ⟨g6, 4 * k + 1, none⟩ (.int .u8 ((vAt V k / 65536 % 256 : Nat) : Int))).setCell ⟨g6, 4 * k + 2, none⟩ (.int .u8 ((vAt V k / 256 % 256 : Nat) : Int))).setCell ⟨g6, 4 * k + 3, none⟩ (.int .u8 ((vAt V k % 256 : Nat) : Int)))) :=
       (((KDF.out.setCell (p := ⟨g6, 4 * k, none⟩) (fun _ => rfl) _).setCell (p := ⟨g6, 4 * k + 1, none⟩) (fun _ => rfl) _).setCell (p := ⟨g6, 4 * k + 2, none⟩) (fun _ => rfl) _).setCell (p := ⟨g6, 4 * k + 3, none⟩) (fun _ => rfl) _
      have HD := Lib.hid D
      obtain ⟨v0, e0⟩ := dig_cell KD.out (i := 4 * k) (by omega) (by omega)
      obtain ⟨v1, e1⟩ := dig_cell KD.out (i := 4 * k + 1) (by omega) (by omega)
      obtain ⟨v2, e2⟩ := dig_cell KD.out (i := 4 * k + 2) (by omega) (by omega)
      obtain ⟨v3, e3⟩ := dig_cell KD.out (i := 4 * k + 3) (by omega) (by omega)
      have f0 := KD.out.frozen (4 * k)
      have f1 := KD.out.frozen (4 * k + 1)
      have f2 := KD.out.frozen (4 * k + 2)
      have f3 := KD.out.frozen (4 * k + 3)
      have m0 : IntKind.i64.wrap (4 * (k : Int)) = ((4 * k : Nat) : Int) := (IntWalk.i64_in _ (by omega)).trans (by omega)
      have m1 : IntKind.i64.wrap (((4 * k : Nat) : Int) + 1) = ((4 * k + 1 : Nat) : Int) := (IntWalk.i64_in _ (by omega)).trans (by omega)
      have m2 : IntKind.i64.wrap (((4 * k : Nat) : Int) + 2) = ((4 * k + 2 : Nat) : Int) := (IntWalk.i64_in _ (by omega)).trans (by omega)
      have m3 : IntKind.i64.wrap (((4 * k : Nat) : Int) + 3) = ((4 * k + 3 : Nat) : Int) := (IntWalk.i64_in _ (by omega)).trans (by omega)
      have n0 : 4 * (k : Int) = ((4 * k : Nat) : Int) := by omega
      have n1 : ((4 * k : Nat) : Int) + 1 = ((4 * k + 1 : Nat) : Int) := by omega
      have n2 : ((4 * k : Nat) : Int) + 2 = ((4 * k + 2 : Nat) : Int) := by omega
      have n3 : ((4 * k : Nat) : Int) + 3 = ((4 * k + 3 : Nat) : Int) := by omega
      have q0 : ((4 * k : Nat) : Int) < 32 := by omega
      have q1 : ((4 * k + 1 : Nat) : Int) < 32 := by omega
      have q2 : ((4 * k + 2 : Nat) : Int) < 32 := by omega
      have q3 : ((4 * k + 3 : Nat) : Int) < 32 := by omega
      have ne01 : ¬ 4 * k = 4 * k + 1 := by omega
      have ne02 : ¬ 4 * k = 4 * k + 2 := by omega
      have ne03 : ¬ 4 * k = 4 * k + 3 := by omega
      have ne12 : ¬ 4 * k + 1 = 4 * k + 2 := by omega
      have ne13 : ¬ 4 * k + 1 = 4 * k + 3 := by omega
      have ne23 : ¬ 4 * k + 2 = 4 * k + 3 := by omega
      have z0 : ((vAt V k : Nat) : Int) / 16777216 = ((vAt V k / 16777216 % 256 : Nat) : Int) := by omega
      have z1 : ((vAt V k : Nat) : Int) / 65536 % 256 = ((vAt V k / 65536 % 256 : Nat) : Int) := by omega
      have z2 : ((vAt V k : Nat) : Int) / 256 % 256 = ((vAt V k / 256 % 256 : Nat) : Int) := by omega
      have z3 : ((vAt V k : Nat) : Int) % 256 = ((vAt V k % 256 : Nat) : Int) := by omega
      have HKK : Hid (4 * (k + 1) = 4 * k + 4) := by simp only [Hid]; omega
      have hkI : (k : Int) < 8 := by omega
      clear D KD KDF
      generalize vAt V k / 16777216 % 256 = x0 at *
      generalize vAt V k / 65536 % 256 = x1 at *
      generalize vAt V k / 256 % 256 = x2 at *
      generalize vAt V k % 256 = x3 at *
      generalize vAt V k = vq at *
      generalize 4 * k + 1 = i1 at *
      generalize 4 * k + 2 = i2 at *
      generalize 4 * k + 3 = i3 at *
      generalize 4 * k = i0 at *
      go_wp2
      go_roundw
      case rel => exact ⟨k + 1, by omega, by go_num, by rw [HKK.out]; exact HD.out, DF.out⟩
      case measure => simp [intOf]; omega
     ·have hd2 : decide ((k : Int) < 8) = false := by simp; omega
      have G6 : Hid (Blk wr g6 91 RA) := by
       have h := KD.out
       rw [show k = 8 by omega, digK_32, HE3.out, ← HRA.out] at h
       exact h
      have G1 : Hid (Blk wr p 91 zero32c) := E1.out.fr KDF.out (fun e => by have e' : p = g6 := e; have := HN2.out; omega)
      have GF : Hid (Fr Nothing w wr) := FA.out.then_ KDF.out (fun i hi e => by have e' : i = g6 := e; have := HN2.out; omega)
      have HSZ : Hid (RA.size = 32 ∧ RA.all (·.oneCell') = true) := by
       simp only [Hid]
       rw [HRA.out]
       refine ⟨by rw [List.size_toArray, List.length_map, ← HE3.out, digestS_length], bytes_one _⟩
      have HI : Hid ((Tryz.prog.info? 91).map (·.size) = some RA.size) := by
       rw [HSZ.out.1]
       exact infoD
      clear KD KDF E1 FA HRA HE3
      go_wp2_with (first | (refine wpList_load_row rfl 91 (.tmp 8) rfl g6 rfl _ RA _ _ G6.out Tryz.underlying91 rfl HI.out ?_) | (refine wpList_storeBlk rfl 91 (.tmp 2) _ rfl p RA rfl rfl _ _ G1.out HI.out (by rw [HSZ.out.1]; rfl) HSZ.out.2 ?_))
      intro wz b4 f4
      have J4 := Lib.hid b4
      have JF : Hid (Fr Nothing w wz) := GF.out.then_ f4 (fun i hi e => by have e' : i = p := e; have := HN2.out; omega)
      clear b4 f4
      go_wp2
      exact bodyPost_ret (results_cell_row (fn := Tryz.f71) (p := 2) (ty := 91) Tryz.results71 _ wz p 91 RA (0, 0) _ rfl J4.out Tryz.underlying91 rfl HI.out) rfl ⟨rfl, JF.out⟩
end Go.Proofs.YtpnchdgplpdefaaGreatDoor
namespace Go.Proofs.YtpnchdgplpdefaaGreatDoor
open Go.RowKit
def digV (l : List UInt8) : Value := .agg (l.map bvI).toArray
end Go.Proofs.YtpnchdgplpdefaaGreatDoor
namespace Go.Proofs.YtpnchdgplpdefaaGreatDoor
open Go.RowKit
def zeroS : St8 := ⟨0, 0, 0, 0, 0, 0, 0, 0⟩
def zeroHc : Array Value := (hashV 0 zeroS (List.replicate 64 0)).toArray
theorem zvH (w : World) : (zeroValue 132).run Tryz.prog w = .ok (.agg zeroHc) w := by kernel_rfl
theorem ShaTab.lt0 {w : World} (h : ShaTab w) : 1 < w.heap.size := World.block_lt_of_cell? w ⟨1, 0, none⟩ (h.init 0 _ rfl)
theorem ShaTab.lt1 {w : World} (h : ShaTab w) : 2 < w.heap.size := World.block_lt_of_cell? w ⟨2, 0, none⟩ (h.kk 0 (by omega))
set_option maxRecDepth 100000 in
set_option maxHeartbeats 1000000 in
theorem Sum_any (s : ByteArray) (w : World) (hT : ShaTab w) (hs : s.size ≤ 1099511627776) (hs1 : 1 ≤ s.size) :
  Calls Tryz.prog 37 #[.string s] w (Same' w (digV (shaL (txL s)))) := by
 have HT := Lib.hid hT
 have HTL := Lib.hid (txL_length s)
 have CW := Lib.hid (fun g w' (b : Blk w' g 132 (hashV 0 zeroS (List.replicate 64 0)).toArray) t h0 h1 => Write_new s g zeroS (List.replicate 64 0) (List.length_replicate ..) w' b t h0 h1 hs hs1)
 have CS := Lib.hid (fun g rest w' (h : HashAt w' g (txL s) rest) t => HSum_any g (txL s) rest w' h t (by rw [txL_length]; exact hs) (by rw [txL_length]; exact hs1))
 have hs32 := shaL_length (txL s)
 unfold digV
 generalize shaL (txL s) = DL at *
 have HS : Hid ((DL.map bvI).toArray.size = 32 ∧ (DL.map bvI).toArray.all (·.oneCell') = true) := ⟨by simp [hs32], bytes_one DL⟩
 have HI : Hid ((Tryz.prog.info? 91).map (·.size) = some (DL.map bvI).toArray.size) := by
  rw [HS.out.1]
  exact infoD
 generalize (DL.map bvI).toArray = RA at *
 clear hT hs32
 go_enter Tryz.func37, Tryz.ntmps37
 go_wp2_with (refine wpList_allocBlk rfl 91 rfl zero32 zvD zero32c rfl ?_)
 intro w1 n1
 have N1 := Lib.hid n1
 clear n1
 go_wp2_with (refine wpList_allocBlk rfl 132 rfl (.agg zeroHc) zvH zeroHc rfl ?_)
 intro w2 n2
 have N2 := Lib.hid n2
 have T2 := Lib.hid (HT.out.fr0 (N1.out.fr.trans n2.fr))
 have HG : Hid (w.heap.size < w1.heap.size ∧ 1 < w.heap.size ∧ 2 < w.heap.size) := ⟨by have := N1.out.size; omega, HT.out.lt0, HT.out.lt1⟩
 have CW2 := Lib.hid (CW.out w1.heap.size w2 n2.blk T2.out (by have := HG.out; omega) (by have := HG.out; omega))
 clear n2 CW
 go_wp2_with fail
 refine CW2.out.mono ?_
 rintro e w3 ⟨rfl, f3, rest, hA⟩
 have T3 := Lib.hid (T2.out.fr f3 (fun e => by have e' : 1 = w1.heap.size := e; have := HG.out; omega) (fun e => by have e' : 2 = w1.heap.size := e; have := HG.out; omega))
 have CS3 := Lib.hid (CS.out _ _ _ hA T3.out)
 have B3 := Lib.hid ((N1.out.blk.fr N2.out.fr (fun x => x)).fr f3 (fun e => by have e' : w.heap.size = w1.heap.size := e; have := HG.out; omega))
 have F3 : Hid (Fr Nothing w w3) := (N1.out.fr.trans N2.out.fr).then_ f3 (fun i hi e => by have e' : i = w1.heap.size := e; have := HG.out; omega)
 clear f3 hA CS CW2
 go_wp2_with fail
 refine CS3.out.mono ?_
 rintro e w4 ⟨rfl, f4⟩
 have B4 := Lib.hid (B3.out.fr f4 (fun x => x))
 have F4 := Lib.hid (F3.out.trans f4)
 clear f4 CS3 B3 F3
 go_wp2_with (refine wpList_storeBlk rfl 91 (.tmp 2) _ rfl w.heap.size RA rfl rfl _ _ B4.out HI.out (by rw [HS.out.1]; rfl) HS.out.2 ?_)
 intro wz b5 f5
 have J4 := Lib.hid b5
 have JF : Hid (Fr Nothing w wz) := F4.out.then_ f5 (fun i hi e => by have e' : i = w.heap.size := e; omega)
 clear b5 f5
 go_wp2
 exact bodyPost_ret (results_cell_row (fn := Tryz.f37) (p := 2) (ty := 91) Tryz.results37 _ wz _ 91 RA (0, 0) _ rfl J4.out Tryz.underlying91 rfl HI.out) rfl ⟨rfl, JF.out⟩
end Go.Proofs.YtpnchdgplpdefaaGreatDoor
