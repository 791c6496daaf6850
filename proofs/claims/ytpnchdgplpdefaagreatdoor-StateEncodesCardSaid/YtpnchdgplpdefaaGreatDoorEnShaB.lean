/- Several texts in one. -/
import Derived.Test.YtpnchdgplpdefaaGreatDoorEnGwA
import Derived.StillTailTactics
import Derived.Deep.RegionWith
import Derived.ArgAppend
import Derived.Lib.ConvBytes
import Derived.WalkKit
import Derived.Lib.AppendStr
namespace Go.Proofs.YtpnchdgplpdefaaGreatDoor
open Go.RowKit
def Compressed (w : World) (bs : Nat) (tS : TypeId) (cs : List Value) (e : Ending) (w' : World) : Prop :=
 e = .returned (.tuple #[]) ∧ Fr (fun k => k = bs) w w' ∧ Blk w' bs tS cs.toArray
theorem or_1 (x0 x1 : Nat) (h0 : x0 < 256) (h1 : x1 < 256) : bits .or .u32 ((x0 * 16777216 : Nat) : Int) ((x1 * 65536 : Nat) : Int) = ((x0 * 16777216 + x1 * 65536 : Nat) : Int) := by
 rw [u32_or_nat _ _ (by omega) (by omega)]
 have := Nat.two_pow_add_eq_or_of_lt (i := 24) (b := x1 * 65536) (by omega) x0
 rw [show x0 * 16777216 = 2 ^ 24 * x0 by omega, ← this]
theorem or_2 (x0 x1 x2 : Nat) (h0 : x0 < 256) (h1 : x1 < 256) (h2 : x2 < 256) : bits .or .u32 ((x0 * 16777216 + x1 * 65536 : Nat) : Int) ((x2 * 256 : Nat) : Int) = ((x0 * 16777216 + x1 * 65536 + x2 * 256 : Nat) : Int) := by
 rw [u32_or_nat _ _ (by omega) (by omega)]
 have := Nat.two_pow_add_eq_or_of_lt (i := 16) (b := x2 * 256) (by omega) (x0 * 256 + x1)
 rw [show x0 * 16777216 + x1 * 65536 = 2 ^ 16 * (x0 * 256 + x1) by omega, ← this]
theorem or_3 (x0 x1 x2 x3 : Nat) (h0 : x0 < 256) (h1 : x1 < 256) (h2 : x2 < 256) (h3 : x3 < 256) : bits .or .u32 ((x0 * 16777216 + x1 * 65536 + x2 * 256 : Nat) : Int) ((x3 : Nat) : Int) = ((word4 x0 x1 x2 x3 : Nat) : Int) := by
 rw [u32_or_nat _ _ (by omega) (by omega)]
 have := Nat.two_pow_add_eq_or_of_lt (i := 8) (b := x3) (by omega) (x0 * 65536 + x1 * 256 + x2)
 rw [show x0 * 16777216 + x1 * 65536 + x2 * 256 = 2 ^ 8 * (x0 * 65536 + x1 * 256 + x2) by omega, ← this]
 unfold word4
 congr 1
 omega
theorem word_steps (x0 x1 x2 x3 : Nat) (h0 : x0 < 256) (h1 : x1 < 256) (h2 : x2 < 256) (h3 : x3 < 256) :
  ∃ p0 p1 p2 s1 s2 : Nat, IntKind.u32.wrap ((x0 : Int) * 16777216) = (p0 : Int) ∧ IntKind.u32.wrap ((x1 : Int) * 65536) = (p1 : Int) ∧ IntKind.u32.wrap ((x2 : Int) * 256) = (p2 : Int) ∧
   bits .or .u32 (p0 : Int) (p1 : Int) = (s1 : Int) ∧ bits .or .u32 (s1 : Int) (p2 : Int) = (s2 : Int) ∧ bits .or .u32 (s2 : Int) (x3 : Int) = ((word4 x0 x1 x2 x3 : Nat) : Int) :=
 ⟨_, _, _, _, _, (IntWalk.u32_in _ (by omega)).trans (by omega : ((x0 : Int) * 16777216) = ((x0 * 16777216 : Nat) : Int)), (IntWalk.u32_in _ (by omega)).trans (by omega : ((x1 : Int) * 65536) = ((x1 * 65536 : Nat) : Int)),
  (IntWalk.u32_in _ (by omega)).trans (by omega : ((x2 : Int) * 256) = ((x2 * 256 : Nat) : Int)), or_1 x0 x1 h0 h1, or_2 x0 x1 x2 h0 h1 h2, or_3 x0 x1 x2 x3 h0 h1 h2 h3⟩
theorem Blk.mid {w : World} {bs os : Nat} {t : TypeId} {pre mid post : List Value} (h : Blk w bs t (pre ++ mid ++ post).toArray) (ho : pre.length = os) {j : Nat} (hj : j < mid.length) : w.cell? ⟨bs, os + j, none⟩ = mid[j]? := by
 subst ho
 rw [h.cell, List.getElem?_toArray, List.append_assoc, List.getElem?_append_right (by omega), Nat.add_sub_cancel_left, List.getElem?_append_left hj]
theorem Blk.set_mid {w : World} {bs os : Nat} {t : TypeId} {pre mid post : List Value} (h : Blk w bs t (pre ++ mid ++ post).toArray) (ho : pre.length = os) {j : Nat} (hj : j < mid.length) (u : Value) :
  Blk (w.setCell ⟨bs, os + j, none⟩ u) bs t (pre ++ mid.set j u ++ post).toArray := by
 subst ho
 have := h.set_ (pre.length + j) u
 rw [List.setIfInBounds_toArray, List.append_assoc, List.set_append_right _ _ (by omega), Nat.add_sub_cancel_left, List.set_append_left _ _ hj, ← List.append_assoc] at this
 exact this
theorem st_cells {w : World} {bs os : Nat} {t : TypeId} {pre post : List Value} {s : St8} (h : Blk w bs t (pre ++ stV s ++ post).toArray) (ho : pre.length = os) :
  w.cell? ⟨bs, os, none⟩ = some (.int .u32 s.a) ∧ w.cell? ⟨bs, os + 1, none⟩ = some (.int .u32 s.b) ∧ w.cell? ⟨bs, os + 2, none⟩ = some (.int .u32 s.c) ∧ w.cell? ⟨bs, os + 3, none⟩ = some (.int .u32 s.d) ∧
  w.cell? ⟨bs, os + 4, none⟩ = some (.int .u32 s.e) ∧ w.cell? ⟨bs, os + 5, none⟩ = some (.int .u32 s.f) ∧ w.cell? ⟨bs, os + 6, none⟩ = some (.int .u32 s.g) ∧ w.cell? ⟨bs, os + 7, none⟩ = some (.int .u32 s.h) :=
 ⟨h.mid ho (j := 0) (by simp [stV]), h.mid ho (j := 1) (by simp [stV]), h.mid ho (j := 2) (by simp [stV]), h.mid ho (j := 3) (by simp [stV]), h.mid ho (j := 4) (by simp [stV]), h.mid ho (j := 5) (by simp [stV]), h.mid ho (j := 6) (by simp [stV]), h.mid ho (j := 7) (by simp [stV])⟩
theorem right_q (n x : Nat) (w : World) (h1 : 1 ≤ n) (h2 : n ≤ 31) (hx : x < 4294967296) :
  Calls Tryz.prog 102 #[.int .i64 n, .int .u32 x] w fun e w' => e = .returned (.int .u32 (rotr n x : Nat)) ∧ w' = w := (right_any n x w h1 h2 hx).mono fun _ _ h => ⟨h.1, h.2.symm⟩
theorem right6 (x : Nat) (w : World) (hx : x < 4294967296) : Calls Tryz.prog 102 #[.int .i64 6, .int .u32 x] w fun e w' => e = .returned (.int .u32 (rotr 6 x : Nat)) ∧ w' = w := right_q 6 x w (by omega) (by omega) hx
theorem right11 (x : Nat) (w : World) (hx : x < 4294967296) : Calls Tryz.prog 102 #[.int .i64 11, .int .u32 x] w fun e w' => e = .returned (.int .u32 (rotr 11 x : Nat)) ∧ w' = w := right_q 11 x w (by omega) (by omega) hx
theorem right25 (x : Nat) (w : World) (hx : x < 4294967296) : Calls Tryz.prog 102 #[.int .i64 25, .int .u32 x] w fun e w' => e = .returned (.int .u32 (rotr 25 x : Nat)) ∧ w' = w := right_q 25 x w (by omega) (by omega) hx
theorem roundP_steps (R : St8) (hR : R.ok) (k w : Nat) : ∃ x1 x2 a1 y1 y2 y3 y4 a2 a3 : Nat,
  bits .xor .u32 ((rotr 6 R.e : Nat) : Int) ((rotr 11 R.e : Nat) : Int) = (x1 : Int) ∧ bits .xor .u32 (x1 : Int) ((rotr 25 R.e : Nat) : Int) = (x2 : Int) ∧ IntKind.u32.wrap ((R.h : Int) + (x2 : Int)) = (a1 : Int) ∧
  bits .and .u32 (R.e : Int) (R.f : Int) = (y1 : Int) ∧ bits .xor .u32 (if IntKind.u32.signed = true then -1 else IntKind.u32.max) (R.e : Int) = (y2 : Int) ∧ bits .and .u32 (y2 : Int) (R.g : Int) = (y3 : Int) ∧ bits .xor .u32 (y1 : Int) (y3 : Int) = (y4 : Int) ∧
  IntKind.u32.wrap ((a1 : Int) + (y4 : Int)) = (a2 : Int) ∧ IntKind.u32.wrap ((a2 : Int) + (k : Int)) = (a3 : Int) ∧ IntKind.u32.wrap ((a3 : Int) + (w : Int)) = ((roundP R k w : Nat) : Int) := by
 have l6 := rotr_lt 6 R.e hR.e
 have l11 := rotr_lt 11 R.e hR.e
 have l25 := rotr_lt 25 R.e hR.e
 refine ⟨xor32 (rotr 6 R.e) (rotr 11 R.e), xor32 (xor32 (rotr 6 R.e) (rotr 11 R.e)) (rotr 25 R.e), _, and32 R.e R.f, not32 R.e, and32 (not32 R.e) R.g, xor32 (and32 R.e R.f) (and32 (not32 R.e) R.g), _, _,
  u32_xor_nat _ _ l6 l11, u32_xor_nat _ _ (xor_lt32 l6 l11) l25, wrap_add32 _ _, u32_and_nat _ _ hR.e hR.f, ?_, u32_and_nat _ _ (not_lt32 _) hR.g, u32_xor_nat _ _ (and_lt32 hR.e) (and_lt32 (not_lt32 _)), wrap_add32 _ _, wrap_add32 _ _, ?_⟩
 ·have := u32_xor_nat 4294967295 R.e (by omega) hR.e
  rw [not_xor32 _ hR.e] at this
  exact this
 ·rw [wrap_add32]
  rfl
theorem roundQ_steps (R : St8) (hR : R.ok) : ∃ x1 x2 z1 z2 z3 z4 z5 : Nat,
  bits .xor .u32 ((rotr 2 R.a : Nat) : Int) ((rotr 13 R.a : Nat) : Int) = (x1 : Int) ∧ bits .xor .u32 (x1 : Int) ((rotr 22 R.a : Nat) : Int) = (x2 : Int) ∧
  bits .and .u32 (R.a : Int) (R.b : Int) = (z1 : Int) ∧ bits .and .u32 (R.a : Int) (R.c : Int) = (z2 : Int) ∧ bits .xor .u32 (z1 : Int) (z2 : Int) = (z3 : Int) ∧ bits .and .u32 (R.b : Int) (R.c : Int) = (z4 : Int) ∧ bits .xor .u32 (z3 : Int) (z4 : Int) = (z5 : Int) ∧
  IntKind.u32.wrap ((x2 : Int) + (z5 : Int)) = ((roundQ R : Nat) : Int) := by
 have l2 := rotr_lt 2 R.a hR.a
 have l13 := rotr_lt 13 R.a hR.a
 have l22 := rotr_lt 22 R.a hR.a
 refine ⟨xor32 (rotr 2 R.a) (rotr 13 R.a), xor32 (xor32 (rotr 2 R.a) (rotr 13 R.a)) (rotr 22 R.a), and32 R.a R.b, and32 R.a R.c, xor32 (and32 R.a R.b) (and32 R.a R.c), and32 R.b R.c, xor32 (xor32 (and32 R.a R.b) (and32 R.a R.c)) (and32 R.b R.c),
  u32_xor_nat _ _ l2 l13, u32_xor_nat _ _ (xor_lt32 l2 l13) l22, u32_and_nat _ _ hR.a hR.b, u32_and_nat _ _ hR.a hR.c, u32_xor_nat _ _ (and_lt32 hR.a) (and_lt32 hR.a), u32_and_nat _ _ hR.b hR.c, u32_xor_nat _ _ (xor_lt32 (and_lt32 hR.a) (and_lt32 hR.a)) (and_lt32 hR.b), ?_⟩
 rw [wrap_add32]
 rfl
theorem idx8_0 (w : World) (V : St8) : (Instr.index 129 (Value.agg #[.int .u32 V.a, .int .u32 V.b, .int .u32 V.c, .int .u32 V.d, .int .u32 V.e, .int .u32 V.f, .int .u32 V.g, .int .u32 V.h]) (.int .i64 0)).run Tryz.prog w = .ok (.int .u32 V.a) w := by kernel_rfl
theorem idx8_1 (w : World) (V : St8) : (Instr.index 129 (Value.agg #[.int .u32 V.a, .int .u32 V.b, .int .u32 V.c, .int .u32 V.d, .int .u32 V.e, .int .u32 V.f, .int .u32 V.g, .int .u32 V.h]) (.int .i64 1)).run Tryz.prog w = .ok (.int .u32 V.b) w := by kernel_rfl
theorem idx8_2 (w : World) (V : St8) : (Instr.index 129 (Value.agg #[.int .u32 V.a, .int .u32 V.b, .int .u32 V.c, .int .u32 V.d, .int .u32 V.e, .int .u32 V.f, .int .u32 V.g, .int .u32 V.h]) (.int .i64 2)).run Tryz.prog w = .ok (.int .u32 V.c) w := by kernel_rfl
theorem idx8_3 (w : World) (V : St8) : (Instr.index 129 (Value.agg #[.int .u32 V.a, .int .u32 V.b, .int .u32 V.c, .int .u32 V.d, .int .u32 V.e, .int .u32 V.f, .int .u32 V.g, .int .u32 V.h]) (.int .i64 3)).run Tryz.prog w = .ok (.int .u32 V.d) w := by kernel_rfl
theorem idx8_4 (w : World) (V : St8) : (Instr.index 129 (Value.agg #[.int .u32 V.a, .int .u32 V.b, .int .u32 V.c, .int .u32 V.d, .int .u32 V.e, .int .u32 V.f, .int .u32 V.g, .int .u32 V.h]) (.int .i64 4)).run Tryz.prog w = .ok (.int .u32 V.e) w := by kernel_rfl
theorem idx8_5 (w : World) (V : St8) : (Instr.index 129 (Value.agg #[.int .u32 V.a, .int .u32 V.b, .int .u32 V.c, .int .u32 V.d, .int .u32 V.e, .int .u32 V.f, .int .u32 V.g, .int .u32 V.h]) (.int .i64 5)).run Tryz.prog w = .ok (.int .u32 V.f) w := by kernel_rfl
theorem idx8_6 (w : World) (V : St8) : (Instr.index 129 (Value.agg #[.int .u32 V.a, .int .u32 V.b, .int .u32 V.c, .int .u32 V.d, .int .u32 V.e, .int .u32 V.f, .int .u32 V.g, .int .u32 V.h]) (.int .i64 6)).run Tryz.prog w = .ok (.int .u32 V.g) w := by kernel_rfl
theorem idx8_7 (w : World) (V : St8) : (Instr.index 129 (Value.agg #[.int .u32 V.a, .int .u32 V.b, .int .u32 V.c, .int .u32 V.d, .int .u32 V.e, .int .u32 V.f, .int .u32 V.g, .int .u32 V.h]) (.int .i64 7)).run Tryz.prog w = .ok (.int .u32 V.h) w := by kernel_rfl
def mixS (s v : St8) (k : Nat) : St8 :=
 ⟨if 0 < k then add32 s.a v.a else s.a, if 1 < k then add32 s.b v.b else s.b, if 2 < k then add32 s.c v.c else s.c, if 3 < k then add32 s.d v.d else s.d, if 4 < k then add32 s.e v.e else s.e, if 5 < k then add32 s.f v.f else s.f, if 6 < k then add32 s.g v.g else s.g, if 7 < k then add32 s.h v.h else s.h⟩
theorem mix0 (s V : St8) : mixS s V 0 = s := rfl
theorem mix8 (s V : St8) : mixS s V 8 = addS s V := rfl
theorem blockS_def (s : St8) (b : List UInt8) : blockS s b = addS s (rounds (schedL b 64) s 64) := rfl
def vAt (s : St8) : Nat → Nat
 | 0 => s.a
 | 1 => s.b
 | 2 => s.c
 | 3 => s.d
 | 4 => s.e
 | 5 => s.f
 | 6 => s.g
 | _ => s.h
theorem below8 {k : Nat} (h : k < 8) : k = 0 ∨ k = 1 ∨ k = 2 ∨ k = 3 ∨ k = 4 ∨ k = 5 ∨ k = 6 ∨ k = 7 := by omega
theorem idx8_any (w : World) (V : St8) (k : Nat) (h : k < 8) : (Instr.index 129 (Value.agg #[.int .u32 V.a, .int .u32 V.b, .int .u32 V.c, .int .u32 V.d, .int .u32 V.e, .int .u32 V.f, .int .u32 V.g, .int .u32 V.h]) (.int .i64 k)).run Tryz.prog w = .ok (.int .u32 (vAt V k)) w := by
 rcases below8 h with rfl | rfl | rfl | rfl | rfl | rfl | rfl | rfl
 ·exact idx8_0 w V
 ·exact idx8_1 w V
 ·exact idx8_2 w V
 ·exact idx8_3 w V
 ·exact idx8_4 w V
 ·exact idx8_5 w V
 ·exact idx8_6 w V
 ·exact idx8_7 w V
theorem mix_at (s V : St8) (k : Nat) (h : k < 8) : (stV (mixS s V k))[k]? = some (.int .u32 (vAt s k)) := by
 rcases below8 h with rfl | rfl | rfl | rfl | rfl | rfl | rfl | rfl <;> rfl
theorem mix_set (s V : St8) (k : Nat) (h : k < 8) : (stV (mixS s V k)).set k (.int .u32 ((add32 (vAt s k) (vAt V k) : Nat) : Int)) = stV (mixS s V (k + 1)) := by
 rcases below8 h with rfl | rfl | rfl | rfl | rfl | rfl | rfl | rfl <;> rfl
set_option maxRecDepth 100000 in
set_option maxHeartbeats 4000000 in
theorem compress_any (bs os bb ob : Nat) (tS : TypeId) (pre post : List Value) (s : St8) (hs : s.ok) (b : List UInt8) (w : World)
  (hS : Blk w bs tS (pre ++ stV s ++ post).toArray) (hos : pre.length = os) 
  (hB : ∀ j, j < 64 → w.cell? ⟨bb, ob + j, none⟩ = some (bvI (b[j]?.getD 0)))
  (hK : ∀ j, j < 64 → w.cell? ⟨2, j, none⟩ = some (u32v (kTab[j]?.getD 0))) :
  Calls Tryz.prog 92 #[.pointer (some ⟨bs, os, none⟩), .pointer (some ⟨bb, ob, none⟩)] w (Compressed w bs tS (pre ++ stV (blockS s b) ++ post)) := by
 have HS := Lib.hid hS
 have HB := Lib.hid hB
 have HK := Lib.hid hK
 have HO := Lib.hid hos
 clear hS hB hK hos
 go_enter Tryz.func92, Tryz.ntmps92
 go_wp2
 have hst : Hid (SchedW w (w.alloc (.cells (Array.replicate 64 (.int .u32 0)) 155)) w.heap.size []) :=
  ⟨(Fr.refl _ _).alloc _, rfl, Blk.new _ _ _⟩
 generalize hg : w.heap.size = g at hst ⊢
 have HG := Lib.hid hg
 clear hg
 go_loopw [24] (fun i wr => ∃ k : Nat, k ≤ 16 ∧ i = .int .i64 k ∧ SchedW w wr g (schedL b k)) (fun i _ => 16 - (intOf i).toNat)
 case atStart => exact ⟨0, by omega, rfl, hst.out⟩
 case round =>
  obtain ⟨k, hk, rfl, hw⟩ := hrel
  have HW := Lib.hid hw
  clear hw
  by_cases hk16 : k < 16
  ·as_aux_lemma =>
    have c0 : ∀ j, j < 64 → wr.drew.cell? ⟨bb, ob + j, none⟩ = some (bvI (b[j]?.getD 0)) := fun j hj => HW.out.1.cellSome (HB.out j hj) (fun x => x)
    have e0 := c0 (4 * k) (by omega)
    have e1 := c0 (4 * k + 1) (by omega)
    have e2 := c0 (4 * k + 2) (by omega)
    have e3 := c0 (4 * k + 3) (by omega)
    have hx : wAt b k = word4 ((b[4 * k]?.getD 0).toNat) ((b[4 * k + 1]?.getD 0).toNat) ((b[4 * k + 2]?.getD 0).toNat) ((b[4 * k + 3]?.getD 0).toNat) := rfl
    have b0 := (b[4 * k]?.getD 0).toNat_lt
    have b1 := (b[4 * k + 1]?.getD 0).toNat_lt
    have b2 := (b[4 * k + 2]?.getD 0).toNat_lt
    have b3 := (b[4 * k + 3]?.getD 0).toNat_lt
    unfold bvI at e0 e1 e2 e3
    generalize (b[4 * k]?.getD 0).toNat = x0 at *
    generalize (b[4 * k + 1]?.getD 0).toNat = x1 at *
    generalize (b[4 * k + 2]?.getD 0).toNat = x2 at *
    generalize (b[4 * k + 3]?.getD 0).toNat = x3 at *
    have HX := Lib.hid hx
    clear hx c0
    have m0 : IntKind.i64.wrap (4 * (k : Int)) = ((4 * k : Nat) : Int) := (IntWalk.i64_in _ (by omega)).trans (by omega)
    have m1 : IntKind.i64.wrap (((4 * k : Nat) : Int) + 1) = ((4 * k + 1 : Nat) : Int) := (IntWalk.i64_in _ (by omega)).trans (by omega)
    have m2 : IntKind.i64.wrap (((4 * k : Nat) : Int) + 2) = ((4 * k + 2 : Nat) : Int) := (IntWalk.i64_in _ (by omega)).trans (by omega)
    have m3 : IntKind.i64.wrap (((4 * k : Nat) : Int) + 3) = ((4 * k + 3 : Nat) : Int) := (IntWalk.i64_in _ (by omega)).trans (by omega)
    have q0 : ((4 * k : Nat) : Int) < 64 := by omega
    have q1 : ((4 * k + 1 : Nat) : Int) < 64 := by omega
    have q2 : ((4 * k + 2 : Nat) : Int) < 64 := by omega
    have q3 : ((4 * k + 3 : Nat) : Int) < 64 := by omega
    have q4 : (k : Int) < 64 := by omega
    generalize 4 * k + 1 = i1 at *
    generalize 4 * k + 2 = i2 at *
    generalize 4 * k + 3 = i3 at *
    generalize 4 * k = i0 at *
    have w0 : IntKind.u32.wrap (x0 : Int) = (x0 : Int) := IntWalk.u32_in _ (by omega)
    have w1 : IntKind.u32.wrap (x1 : Int) = (x1 : Int) := IntWalk.u32_in _ (by omega)
    have w2 : IntKind.u32.wrap (x2 : Int) = (x2 : Int) := IntWalk.u32_in _ (by omega)
    have w3 : IntKind.u32.wrap (x3 : Int) = (x3 : Int) := IntWalk.u32_in _ (by omega)
    obtain ⟨p0, p1, p2, s1, s2, y0, y1, y2, z1, z2, z3⟩ := word_steps x0 x1 x2 x3 b0 b1 b2 b3
    rw [← HX.out] at z3
    obtain ⟨uk, huk⟩ := HW.out.at_ (k := k) (by omega)
    have huk2 : wr.drew.cell? ⟨g, k, none⟩ = some uk := huk
    have hfr : wr.drew.frozen? ⟨g, k, none⟩ = false := HW.out.2.2.frozen k
    clear huk
    go_wp2
    go_still_tail 39, (by kernel_rfl)
    change wpList _ _ _ _ _ wr.drew
    go_wp2
    go_roundw
    case rel => 
     refine ⟨k + 1, by omega, by go_num, ?_⟩
     have h := HW.out.drew.put (schedL_length b k) (by omega) (wAt b k)
     have e : schedL b (k + 1) = schedL b k ++ [wAt b k] := by simp [schedL, hk16]
     rw [e]
     exact h
    case measure => simp [intOf]; omega
  ·have hd : decide ((k : Int) < 16) = false := by simp; omega
   rw [show k = 16 by omega] at HW
   clear hk16
   go_wp2
   go_loopw [6] (fun i wq => ∃ k : Nat, 16 ≤ k ∧ k ≤ 64 ∧ i = .int .i64 k ∧ SchedW w wq g (schedL b k)) (fun i _ => 64 - (intOf i).toNat)
   case atStart => exact ⟨16, by omega, by omega, rfl, HW.out⟩
   case round =>
    clear hd
    obtain ⟨k, hk16, hk, rfl, hw⟩ := hrel
    have HV := Lib.hid hw
    clear hw
    by_cases hk64 : k < 64
    ·as_aux_lemma =>
      have hl : (schedL b k).length = k := schedL_length b k
      have c15 := HV.out.get (k := k - 15) (by omega)
      have c2 := HV.out.get (k := k - 2) (by omega)
      have m15 : IntKind.i64.wrap ((k : Int) - 15) = ((k - 15 : Nat) : Int) := (IntWalk.i64_in _ (by omega)).trans (by omega)
      have m2 : IntKind.i64.wrap ((k : Int) - 2) = ((k - 2 : Nat) : Int) := (IntWalk.i64_in _ (by omega)).trans (by omega)
      have q15 : ((k - 15 : Nat) : Int) < 64 := by omega
      have q2 : ((k - 2 : Nat) : Int) < 64 := by omega
      obtain ⟨x15, hx15⟩ : ∃ x, x = (schedL b k)[k - 15]?.getD 0 := ⟨_, rfl⟩
      obtain ⟨x2, hx2⟩ : ∃ x, x = (schedL b k)[k - 2]?.getD 0 := ⟨_, rfl⟩
      obtain ⟨i15, hi15⟩ : ∃ x, x = k - 15 := ⟨_, rfl⟩
      obtain ⟨i2, hi2⟩ : ∃ x, x = k - 2 := ⟨_, rfl⟩
      rw [← hx15] at c15
      rw [← hx2] at c2
      rw [← hi15] at c15 m15 q15
      rw [← hi2] at c2 m2 q2
      unfold u32v at c15 c2
      have HL := Lib.hid hl
      have HX15 := Lib.hid hx15
      have HX2 := Lib.hid hx2
      clear hl hx15 hx2 hi15 hi2
      go_wp2
      go_quiet (fail)
      have L15 : x15 < 4294967296 := sched_lt _ _ _ _ HX15.out
      have L2 : x2 < 4294967296 := sched_lt _ _ _ _ HX2.out
      obtain ⟨r1, r2, r3⟩ := sig0_steps x15 L15
      obtain ⟨r4, r5, r6⟩ := sig1_steps x2 L2
      go_wp2_with fail
      refine (right_any 7 x15 _ (by omega) (by omega) L15).mono ?_
      rintro e w1 ⟨rfl, rfl⟩
      go_wp2_with fail
      refine (right_any 18 x15 _ (by omega) (by omega) L15).mono ?_
      rintro e w1 ⟨rfl, rfl⟩
      go_wp2_with fail
      refine (right_any 17 x2 _ (by omega) (by omega) L2).mono ?_
      rintro e w1 ⟨rfl, rfl⟩
      go_wp2_with fail
      refine (right_any 19 x2 _ (by omega) (by omega) L2).mono ?_
      rintro e w1 ⟨rfl, rfl⟩
      have V2 := Lib.hid (HV.out.drewN nq).drew
      have c16 := V2.out.get (k := k - 16) (by rw [HL.out]; omega)
      have c7 := V2.out.get (k := k - 7) (by rw [HL.out]; omega)
      have m16 : IntKind.i64.wrap ((k : Int) - 16) = ((k - 16 : Nat) : Int) := (IntWalk.i64_in _ (by omega)).trans (by omega)
      have m7 : IntKind.i64.wrap ((k : Int) - 7) = ((k - 7 : Nat) : Int) := (IntWalk.i64_in _ (by omega)).trans (by omega)
      have q16 : ((k - 16 : Nat) : Int) < 64 := by omega
      have q7 : ((k - 7 : Nat) : Int) < 64 := by omega
      have qk : (k : Int) < 64 := by omega
      obtain ⟨x16, hx16⟩ : ∃ x, x = (schedL b k)[k - 16]?.getD 0 := ⟨_, rfl⟩
      obtain ⟨x7, hx7⟩ : ∃ x, x = (schedL b k)[k - 7]?.getD 0 := ⟨_, rfl⟩
      obtain ⟨i16, hi16⟩ : ∃ x, x = k - 16 := ⟨_, rfl⟩
      obtain ⟨i7, hi7⟩ : ∃ x, x = k - 7 := ⟨_, rfl⟩
      rw [← hx16] at c16
      rw [← hx7] at c7
      rw [← hi16] at c16 m16 q16
      rw [← hi7] at c7 m7 q7
      unfold u32v at c16 c7
      have HX16 := Lib.hid hx16
      have HX7 := Lib.hid hx7
      clear hx16 hx7 hi16 hi7
      have a1 := wrap_add32 x16 (sig0 x15)
      have a2 := wrap_add32 (add32 x16 (sig0 x15)) x7
      have a3 := wrap_add32 (add32 (add32 x16 (sig0 x15)) x7) (sig1 x2)
      obtain ⟨uk, huk⟩ := V2.out.at_ (k := k) (by omega)
      have hfr := V2.out.2.2.frozen k
      go_wp2
      generalize wr.drewN nq = wz at *
      go_still_tail 15, (by kernel_rfl)
      change wpList _ _ _ _ _ wz.drew
      go_wp2
      go_roundw
      case rel =>
       refine ⟨k + 1, by omega, by omega, by go_num, ?_⟩
       have h := V2.out.put HL.out hk64 (add32 (add32 (add32 x16 (sig0 x15)) x7) (sig1 x2))
       have e : schedL b (k + 1) = schedL b k ++ [add32 (add32 (add32 x16 (sig0 x15)) x7) (sig1 x2)] := by
        rw [schedL, if_neg (by omega), HX16.out, HX15.out, HX7.out, HX2.out]
       rw [e]
       exact h
      case measure => simp [intOf]; omega
    ·have hd2 : decide ((k : Int) < 64) = false := by simp; omega
     rw [show k = 64 by omega] at HV
     clear hk64
     have S1 := Lib.hid (HS.out.fr HV.out.1 (fun x => x))
     obtain ⟨g0, g1, g2, g3, g4, g5, g6, g7⟩ := st_cells S1.out HO.out
     go_wp2
     go_quiet (fail)
     have V1 := Lib.hid (HV.out.drewN nq)
     have S2 := Lib.hid (S1.out.drewN nq)
     clear g0 g1 g2 g3 g4 g5 g6 g7 HV S1
     generalize wr.drewN nq = w3 at *
     obtain ⟨g0, g1, g2, g3, g4, g5, g6, g7⟩ := st_cells S2.out HO.out
     go_wp2
     go_quiet (fail)
     have V2 := Lib.hid (V1.out.drewN nq)
     have S3 := Lib.hid (S2.out.drewN nq)
     clear g0 g1 g2 g3 g4 g5 g6 g7 V1 S2
     generalize w3.drewN nq = w4 at *
     go_wp2
     have HL := Lib.hid (schedL_length b 64)
     have HW4 := Lib.hid (fun i x hx => sched_lt b 64 i x hx)
     generalize hW : schedL b 64 = W at *
     have HWW := Lib.hid hW
     clear hW
     go_loopw [142, 11, 12, 13, 14, 15, 16, 17, 18] (fun i va vb vc vd ve vf vg vh wq => ∃ k : Nat, k ≤ 64 ∧ i = .int .i64 k ∧ va = .int .u32 (rounds W s k).a ∧ vb = .int .u32 (rounds W s k).b ∧ vc = .int .u32 (rounds W s k).c ∧ vd = .int .u32 (rounds W s k).d ∧ ve = .int .u32 (rounds W s k).e ∧ vf = .int .u32 (rounds W s k).f ∧ vg = .int .u32 (rounds W s k).g ∧ vh = .int .u32 (rounds W s k).h ∧ SchedW w wq g W) (fun i _ _ _ _ _ _ _ _ _ => 64 - (intOf i).toNat)
     case atStart => exact ⟨0, by omega, rfl, rfl, rfl, rfl, rfl, rfl, rfl, rfl, rfl, V2.out⟩
     case round =>
      obtain ⟨k, hk, rfl, rfl, rfl, rfl, rfl, rfl, rfl, rfl, rfl, hq⟩ := hrel
      have HQ := Lib.hid hq
      have hR := rounds_ok W s hs k
      clear hq V2 hd2
      by_cases hk64 : k < 64
      ·as_aux_lemma =>
        have HE : Hid (rounds W s (k + 1) = round (rounds W s k) (kTab[k]?.getD 0) (W[k]?.getD 0)) := rfl
        have c1 := HQ.out.1.cellSome (HK.out k hk64) (fun x => x)
        have c2 := HQ.out.get (k := k) (by rw [HL.out]; exact hk64)
        obtain ⟨kk, hkk⟩ : ∃ x, x = kTab[k]?.getD 0 := ⟨_, rfl⟩
        obtain ⟨ww, hww⟩ : ∃ x, x = W[k]?.getD 0 := ⟨_, rfl⟩
        rw [← hkk] at c1 HE
        rw [← hww] at c2 HE
        unfold u32v at c1 c2
        clear hkk hww
        generalize rounds W s k = R at *
        obtain ⟨x1, x2, a1, y1, y2, y3, y4, a2, a3, t1, t2, t3, t4, t5, t6, t7, t8, t9, t10⟩ := roundP_steps R hR kk ww
        obtain ⟨o1, o2, z1, z2, z3, z4, z5, p1, p2, p3, p4, p5, p6, p7, p8⟩ := roundQ_steps R hR
        have r1 := wrap_add32 (roundP R kk ww) (roundQ R)
        have r2 := wrap_add32 R.d (roundP R kk ww)
        have HRE : Hid (rounds W s (k + 1) = ⟨add32 (roundP R kk ww) (roundQ R), R.a, R.b, R.c, add32 R.d (roundP R kk ww), R.e, R.f, R.g⟩) := HE.out
        have La := hR.a
        have Le := hR.e
        have HH := Lib.hid hR
        clear HE hR
        have hkI : (k : Int) < 64 := by omega
        generalize roundP R kk ww = P at *
        generalize roundQ R = Q at *
        go_wp2
        go_quiet (first | (go_at_call_of 102 (Value.int IntKind.i64 6); exact Calls.quiet_of_same (right6 R.e _ Le)) | (go_at_call_of 102 (Value.int IntKind.i64 11); exact Calls.quiet_of_same (right11 R.e _ Le)) | (go_at_call_of 102 (Value.int IntKind.i64 25); exact Calls.quiet_of_same (right25 R.e _ Le)))
        have Q2 := Lib.hid (HQ.out.drewN nq)
        clear HQ c1 c2 t1 t2 t3 t4 t5 t6 t7 t8 t9 t10
        generalize wr.drewN nq = w5 at *
        go_wp2_with fail
        refine (right_any 2 R.a _ (by omega) (by omega) La).mono ?_
        rintro e w1 ⟨rfl, rfl⟩
        go_wp2_with fail
        refine (right_any 13 R.a _ (by omega) (by omega) La).mono ?_
        rintro e w1 ⟨rfl, rfl⟩
        go_wp2_with fail
        refine (right_any 22 R.a _ (by omega) (by omega) La).mono ?_
        rintro e w1 ⟨rfl, rfl⟩
        go_wp2
        go_roundw
        case rel =>
         exact ⟨k + 1, by omega, by go_num, by rw [HRE.out], by rw [HRE.out], by rw [HRE.out], by rw [HRE.out], by rw [HRE.out], by rw [HRE.out], by rw [HRE.out], by rw [HRE.out], Q2.out⟩
        case measure => simp [intOf]; omega
      ·have hd3 : decide ((k : Int) < 64) = false := by simp; omega
       have HF4 : Hid (Fr (fun k => k = bs) w wr) := HQ.out.1.weak
       have S4 : Hid (Blk wr bs tS (pre ++ stV (mixS s (rounds W s k) 0) ++ post).toArray) := by
        rw [mix0]
        exact HS.out.fr HQ.out.1 (fun x => x)
       have HRE : Hid (rounds W s k = rounds W s 64) := by
        have e : k = 64 := by omega
        subst e; exact rfl
       clear hk64 hR S3 HQ HL HW4
       generalize rounds W s k = V at *
       go_wp2
       go_loopw [214] (fun i wq => ∃ k : Nat, k ≤ 8 ∧ i = .int .i64 k ∧ Fr (fun k => k = bs) w wq ∧ Blk wq bs tS (pre ++ stV (mixS s V k) ++ post).toArray) (fun i _ => 8 - (intOf i).toNat)
       case atStart => exact ⟨0, by omega, rfl, HF4.out, S4.out⟩
       case round =>
        clear hd3 S4 HF4
        obtain ⟨k, hk, rfl, hF, hB⟩ := hrel
        have KF := Lib.hid hF
        have KB := Lib.hid hB
        clear hF hB
        by_cases hk8 : k < 8
        ·as_aux_lemma =>
          have c0 : wr.drew.cell? ⟨bs, os + k, none⟩ = some (.int .u32 (vAt s k)) := (KB.out.drew.mid HO.out (j := k) (by simpa [stV] using hk8)).trans (mix_at s V k hk8)
          have f0 : wr.drew.frozen? ⟨bs, os + k, none⟩ = false := KB.out.drew.frozen _
          have hix := idx8_any wr V k hk8
          have a0 := wrap_add32 (vAt s k) (vAt V k)
          have KB2 : Hid (Blk (wr.drew.setCell ⟨bs, os + k, none⟩ (.int .u32 ((add32 (vAt s k) (vAt V k) : Nat) : Int))) bs tS (pre ++ stV (mixS s V (k + 1)) ++ post).toArray) := by
           have h := KB.out.drew.set_mid HO.out (j := k) (by simpa [stV] using hk8) (.int .u32 ((add32 (vAt s k) (vAt V k) : Nat) : Int))
           rw [mix_set s V k hk8] at h
           exact h
          have KF2 : Hid (Fr (fun k => k = bs) w (wr.drew.setCell ⟨bs, os + k, none⟩ (.int .u32 ((add32 (vAt s k) (vAt V k) : Nat) : Int)))) := KF.out.drew.setCell (p := ⟨bs, os + k, none⟩) (fun _ => rfl) _
          have hkI : (k : Int) < 8 := by omega
          clear KB KF hk8
          generalize vAt s k = sk at *
          generalize vAt V k = vk at *
          go_wp2
          go_still_tail 9, (by kernel_rfl)
          change wpList _ _ _ _ _ wr.drew
          go_wp2
          go_roundw
          case rel => exact ⟨k + 1, by omega, by go_num, KF2.out, KB2.out⟩
          case measure => simp [intOf]; omega
        ·have hd5 : decide ((k : Int) < 8) = false := by simp; omega
         have e8 : k = 8 := by omega
         rw [e8] at KB
         clear e8 hk8
         go_wp2
         refine bodyPost_ret (results_none rfl _ _ _) rfl ?_
         refine ⟨rfl, KF.out, ?_⟩
         have h8 := KB.out
         rw [mix8, HRE.out, ← HWW.out] at h8
         rw [blockS_def]
         exact h8
end Go.Proofs.YtpnchdgplpdefaaGreatDoor
namespace Go.Proofs.YtpnchdgplpdefaaGreatDoor
open Go.RowKit
def txL (s : ByteArray) : List UInt8 := s.data.toList
theorem txL_length (s : ByteArray) : (txL s).length = s.size := by simp [txL]
structure BGrew (W w : World) (v : Value) (l : List UInt8) : Prop where
 fr : Fr Nothing W w
 row : ∃ g cap, v = .slice (some ⟨g, 0, none⟩) l.length cap ∧ W.heap.size ≤ g ∧ g < w.heap.size ∧ l.length ≤ cap ∧ cap ≤ maxLen ∧ (∀ j, j < cap → (w.cell? ⟨g, j, none⟩).isSome = true) ∧
  (∀ j, j < cap → w.frozen? ⟨g, j, none⟩ = false) ∧ (∀ j u, (l.map bvI)[j]? = some u → w.cell? ⟨g, j, none⟩ = some u)
theorem info_u8' : (Tryz.prog.info? 5).map (fun i => (i.zero, i.size, i.bytes)) = some (some (.int .u8 0), 1, 1) := by kernel_rfl
theorem BGrew.conv (w : World) (s : ByteArray) (hs : s.size ≤ 1099511627776) : ∃ v w1, (convert 9 28 (.string s)).run Tryz.prog w = .ok v w1 ∧ BGrew w w1 v (txL s) := by
 have hge := grownCap_ge w s.size 0 5
 have hsz : (Lib.bytesCells w 5 s).size = grownCap w s.size 0 5 := by
  simp only [Lib.bytesCells, Array.size_append, Array.size_map, Array.size_replicate]
  show s.size + _ = _
  omega
 refine ⟨_, _, Lib.run_convert_string_bytes w 9 28 5 s Tryz.underlying9 Tryz.underlying28 Tryz.underlying5, ⟨rfl, rfl, rfl, by rw [Lib.bytesWorld_size]; omega, fun k hk _ => Lib.bytesWorld_at_old w _ s k hk⟩, w.heap.size, _, by rw [txL_length], Nat.le_refl _, by rw [Lib.bytesWorld_size]; omega, by rw [txL_length]; exact hge, grownCap_le_maxLen w s.size 0 _ (by simp only [maxLen]; omega), fun j hj => ?_, fun j hj => ?_, fun j u hu => ?_⟩
 ·simp only [World.cell?, Lib.bytesWorld_at_new]
  have : j < (Lib.bytesCells w 5 s).size := by omega
  simp [this]
 ·simp only [World.frozen?, Lib.bytesWorld_at_new, hsz]
  simp
  omega
 ·rw [List.getElem?_map] at hu
  cases hj : (txL s)[j]? with
  | none => rw [hj] at hu; cases hu
  | some x =>
   rw [hj] at hu
   simp only [Option.map_some, Option.some.injEq] at hu
   have hjl : j < s.size := by rw [← txL_length]; exact (List.getElem?_eq_some_iff.1 hj).1
   rw [Lib.bytesWorld_cell w _ s j hjl]
   unfold txL at hj
   rw [List.getD_eq_getElem?_getD, hj, ← hu]
   rfl
theorem BGrew.of_own {W w : World} {base : Nat} {v : Value} {l : List UInt8} (h : w.ownsRow base 5 1 v l.length (l.map bvI)) (hb : W.heap.size ≤ base) (hf : Fr Nothing W w) (hn : l ≠ []) : BGrew W w v l := by
 rcases h.2 with ⟨rfl, h0⟩ | ⟨g, cap, cur, rfl, hbg, hg, hnc, hcm, hcs, htake⟩
 ·cases l with
  | nil => exact absurd rfl hn
  | cons x r => simp at h0
 ·have hlt : g < w.heap.size := by
   rcases Nat.lt_or_ge g w.heap.size with h' | h'
   ·exact h'
   ·rw [Array.getElem?_eq_none h'] at hg; cases hg
  refine ⟨hf, g, cap, rfl, by omega, hlt, hnc, hcm, fun j hj => ?_, fun j _ => by simp [World.frozen?, hg], fun j u hu => ?_⟩
  ·have hj' : j < cur.size := by omega
   simp [World.cell?, hg, hj']
  ·have h2 := h.cells (g := g) rfl j u hu
   rw [show (⟨g, 0, none⟩ : Addr).add j = ⟨g, j, none⟩ by unfold Addr.add; split <;> simp_all] at h2
   exact h2
theorem BGrew.app {W w : World} {v : Value} {l x : List UInt8} (h : BGrew W w v l) (ty : TypeId) (a : Addr) (c : Nat) (hx : ∀ j u, (x.map bvI)[j]? = some u → w.cell? (a.add j) = some u) (hl : l.length + x.length ≤ 140737488355328) (hne : x ≠ []) :
  ∃ v' w', (Builtin.append_ #[28, 28] ty #[v, .slice (some a) x.length c]).run Tryz.prog w = .ok v' w' ∧ BGrew W w' v' (l ++ x) := by
 obtain ⟨hf, g, cap, rfl, hWg, hgw, hlc, hcm, hc, hz, hr⟩ := h
 obtain ⟨i, hi, hz0, hz1, hz2⟩ := info_parts info_u8'
 have hone : ∀ u ∈ x.map bvI, u.oneCell' = true := by
  intro u hu
  obtain ⟨b, _, rfl⟩ := List.mem_map.1 hu
  rfl
 by_cases hroom : l.length + x.length ≤ cap
 ·have hrun := run_append_room_cells (P := Tryz.prog) w 28 ty 5 i Tryz.underlying28 hi g 0 l.length cap a x.length c (x.map bvI) (by rw [hz1]; simp) hx hone hroom (fun j hj => by
   rw [hz1, Nat.mul_one, Nat.zero_add]; simp at hj; exact hc _ (by omega)) (fun j hj => by rw [hz1, Nat.mul_one, Nat.zero_add]; simp at hj; exact hz _ (by omega))
  rw [hz1, Nat.mul_one, Nat.zero_add] at hrun
  refine ⟨_, _, hrun, ?_⟩
  refine ⟨Fr.setCells (fun hlt => by omega) _ _ _ hf, g, cap, by rw [List.length_append], hWg, ?_, by rw [List.length_append]; exact hroom, hcm, fun j hj => ?_, fun j hj => ?_, fun j u hu => ?_⟩
  ·exact Nat.lt_of_lt_of_le hgw (Fr.setCells (T := fun k => k = g) (fun _ => rfl) _ _ _ (Fr.refl _ w)).size
  ·exact Lib.isSome_setCells _ _ _ _ _ (hc j hj)
  ·rw [World.frozen?_setCells]; exact hz j hj
  ·rw [List.map_append, List.getElem?_append] at hu
   by_cases hj : j < (l.map bvI).length
   ·rw [if_pos hj] at hu
    rw [World.cell?_setCells_out _ _ _ _ _ (fun _ _ => Or.inl (by simpa using hj))]
    exact hr j u hu
   ·rw [if_neg hj] at hu
    have hjl : l.length ≤ j := by simpa using hj
    rw [List.length_map] at hu
    obtain ⟨hlt, hval⟩ := List.getElem?_eq_some_iff.1 hu
    have e := World.cell?_setCells_in g (x.map bvI) l.length w (fun k hk => hc _ (by simp at hk; omega)) (j - l.length) hlt
    rw [show l.length + (j - l.length) = j by omega] at e
    rw [e, hval]
 ·obtain ⟨v', w', hrun, hown, hgr⟩ := run_append_arg_grows (P := Tryz.prog) w 28 ty 5 i (.int .u8 0) 1 1 Tryz.underlying28 hi hz0 hz1 hz2 rfl (by omega) ⟨g, 0, none⟩ l.length cap (l.map bvI) (by simp) (fun j u hu => by
   rw [show (⟨g, 0, none⟩ : Addr).add j = ⟨g, j, none⟩ by unfold Addr.add; split <;> simp_all]; exact hr j u hu) a x.length c (x.map bvI) (by simp) hx (by omega) (by simp only [maxLen]; omega) (by omega)
  refine ⟨v', w', hrun, BGrew.of_own (base := w.heap.size) ?_ hf.size (hf.trans ((Fr.grown hgr).mono (fun k _ hk => by cases hk))) (by simp [hne])⟩
  rw [List.length_append, List.map_append]
  exact hown
end Go.Proofs.YtpnchdgplpdefaaGreatDoor
namespace Go.Proofs.YtpnchdgplpdefaaGreatDoor
open Go.RowKit
end Go.Proofs.YtpnchdgplpdefaaGreatDoor
namespace Go.Proofs.YtpnchdgplpdefaaGreatDoor
open Go.RowKit
end Go.Proofs.YtpnchdgplpdefaaGreatDoor
