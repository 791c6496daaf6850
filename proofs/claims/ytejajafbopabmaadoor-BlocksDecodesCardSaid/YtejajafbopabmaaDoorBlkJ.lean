/- The reference's Decode (written by genJ.py). -/
import Derived.Test.YtejajafbopabmaaDoorBlkG
import Derived.Deep.DeepCutAuto
namespace Go.Proofs.YtejajafbopabmaaDoor
open Go.RowKit

theorem conv_bytes' (w : World) (s : ByteArray) : ∃ a c w1 S, (convert 9 72 (.string s)).run Tryd.prog w = .ok (.slice (some a) s.size c) w1 ∧ Fr Nothing w w1 ∧ Rd w1 S 1 (some a) s.size ((strL s).map bv) := by
  obtain ⟨c, w1, h⟩ := conv_bytes w s
  exact ⟨_, c, w1, _, h⟩

theorem strL_from (s : ByteArray) (k : Nat) : strL (s.extract k s.size) = (strL s).drop k := by
  simp [strL]
  exact List.take_of_length_le (by rw [List.length_drop]; exact Nat.le_refl _)
theorem size_from (s : ByteArray) (k : Nat) : (s.extract k s.size).size = s.size - k := by simp

set_option maxRecDepth 100000 in
set_option maxHeartbeats 4000000 in
theorem rDecode_e1 (s : ByteArray) (w : World) (hs : s.size ≤ 1099511627776) (h : (pn (strL s) 9).2.2 ≠ 0) :
    Calls Tryd.prog 36 #[.string s] w (Gives w (.tuple #[zeroM, .int .i64 3])) := by
  have hB := Blk.new w 28 #[.int .i64 0, .slice none 0 0]
  have hF : Fr Nothing w (w.alloc (.cells #[.int .i64 0, .slice none 0 0] 28)) := (Fr.refl _ _).alloc _
  obtain ⟨aa, cc, w1, S1, hcv, hf1, hr1⟩ := conv_bytes' (w.alloc (.cells #[.int .i64 0, .slice none 0 0] 28)) s
  have HB1 := Lib.hid (hB.fr hf1 (fun x => x))
  have HF1 := Lib.hid (hF.trans hf1)
  have HR1 := Lib.hid hr1
  clear hB hF hf1 hr1
  go_enter Tryd.func36, Tryd.ntmps36
  go_wp2_with fail
  refine (refParse_any _ _ _ (strL s) _ _ HR1.out hs).mono ?_
  rintro e w2 ⟨rfl, rfl⟩
  have hz : (((pn (strL s) 9).2.2 : Nat) : Int) ≠ 0 := by omega
  have hzb : ((((pn (strL s) 9).2.2 : Nat) : Int) != 0) = true := by rw [bne_iff_ne]; exact hz
  generalize (((pn (strL s) 9).2.2 : Nat) : Int) = z1 at *
  generalize (((pn (strL s) 9).2.1 : Nat) : Int) = y1 at *
  generalize (((pn (strL s) 9).1 : Nat) : Int) = x1 at *
  obtain ⟨x0, x2, x3, x4⟩ := HB1.out.two
  have B9 := Lib.hid (HB1.out.set2 (.int .i64 0) (.slice none 0 0))
  obtain ⟨d0, d1, _, _⟩ := B9.out.two
  have F9 : Hid (Fr Nothing w ((w1.setCell ⟨w.heap.size, 0, none⟩ (.int .i64 0)).setCell ⟨w.heap.size, 1, none⟩ (.slice none 0 0))) := HF1.out.then_ (fr_one2 w1 w.heap.size (.int .i64 0) (.slice none 0 0)) (fun i hi e => by have e' : i = w.heap.size := e; omega)
  clear h hz HR1 hcv
  go_wp2
  exact bodyPost_ret (v := .tuple #[zeroM, .int .i64 3]) (by simp [results, Tryd.results36, go_sem, zeroM, d0, d1]) rfl ⟨rfl, F9.out⟩

set_option maxRecDepth 100000 in
set_option maxHeartbeats 4000000 in
theorem rDecode_e2 (s : ByteArray) (w : World) (hs : s.size ≤ 1099511627776) (f k1 : Nat) (e1 : pn (strL s) 9 = (f, k1, 0)) (hk1 : k1 ≤ s.size) (h : (pn ((strL s).drop k1) 9).2.2 ≠ 0) :
    Calls Tryd.prog 36 #[.string s] w (Gives w (.tuple #[zeroM, .int .i64 3])) := by
  have hB := Blk.new w 28 #[.int .i64 0, .slice none 0 0]
  have hF : Fr Nothing w (w.alloc (.cells #[.int .i64 0, .slice none 0 0] 28)) := (Fr.refl _ _).alloc _
  obtain ⟨aa, cc, w1, S1, hcv, hf1, hr1⟩ := conv_bytes' (w.alloc (.cells #[.int .i64 0, .slice none 0 0] 28)) s
  have HB1 := Lib.hid (hB.fr hf1 (fun x => x))
  have HF1 := Lib.hid (hF.trans hf1)
  have HR1 := Lib.hid hr1
  clear hB hF hf1 hr1
  go_enter Tryd.func36, Tryd.ntmps36
  go_wp2_with fail
  refine (refParse_any _ _ _ (strL s) _ _ HR1.out hs).mono ?_
  rintro e w2 ⟨rfl, rfl⟩
  rw [e1]
  obtain ⟨a2, c2, w2, S2, hcv2, hf2, hr2⟩ := conv_bytes' w1 (s.extract k1 s.size)
  rw [size_from, strL_from] at hr2
  rw [size_from] at hcv2
  have HB2 := Lib.hid (HB1.out.fr hf2 (fun x => x))
  have HF2 := Lib.hid (HF1.out.trans hf2)
  have HR2 := Lib.hid hr2
  have hs2 : s.size - k1 ≤ 1099511627776 := by omega
  have hk1' : (k1 : Int) ≤ (s.size : Int) := by omega
  clear hf2 hr2 hcv HR1 HB1 HF1
  go_wp2_with fail
  refine (refParse_any _ _ _ ((strL s).drop k1) _ _ HR2.out hs2).mono ?_
  rintro e w2' ⟨rfl, rfl⟩
  clear hcv2 HR2 hs2
  have hz : (((pn ((strL s).drop k1) 9).2.2 : Nat) : Int) ≠ 0 := by omega
  have hzb : ((((pn ((strL s).drop k1) 9).2.2 : Nat) : Int) != 0) = true := by rw [bne_iff_ne]; exact hz
  generalize (((pn ((strL s).drop k1) 9).2.2 : Nat) : Int) = z1 at *
  generalize (((pn ((strL s).drop k1) 9).2.1 : Nat) : Int) = y1 at *
  generalize (((pn ((strL s).drop k1) 9).1 : Nat) : Int) = x1 at *
  obtain ⟨x0, x2, x3, x4⟩ := HB2.out.two
  have B9 := Lib.hid (HB2.out.set2 (.int .i64 0) (.slice none 0 0))
  obtain ⟨d0, d1, _, _⟩ := B9.out.two
  have F9 : Hid (Fr Nothing w ((w2.setCell ⟨w.heap.size, 0, none⟩ (.int .i64 0)).setCell ⟨w.heap.size, 1, none⟩ (.slice none 0 0))) := HF2.out.then_ (fr_one2 w2 w.heap.size (.int .i64 0) (.slice none 0 0)) (fun i hi e => by have e' : i = w.heap.size := e; omega)
  clear h hz
  go_wp2
  exact bodyPost_ret (v := .tuple #[zeroM, .int .i64 3]) (by simp [results, Tryd.results36, go_sem, zeroM, d0, d1]) rfl ⟨rfl, F9.out⟩

set_option maxRecDepth 100000 in
set_option maxHeartbeats 4000000 in
theorem rDecode_new (s : ByteArray) (w : World) (hs : s.size ≤ 1099511627776) (f k1 : Nat) (e1 : pn (strL s) 9 = (f, k1, 0)) (hk1 : k1 ≤ s.size) (hf63 : f < 9223372036854775808) (n k2 : Nat) (e2 : pn ((strL s).drop k1) 9 = (n, k2, 0)) (hn63 : n < 9223372036854775808) (h : 1073741824 < f ∨ n < 1 ∨ 65536 < n) :
    Calls Tryd.prog 36 #[.string s] w (Gives w (.tuple #[zeroM, .int .i64 3])) := by
  have hB := Blk.new w 28 #[.int .i64 0, .slice none 0 0]
  have hF : Fr Nothing w (w.alloc (.cells #[.int .i64 0, .slice none 0 0] 28)) := (Fr.refl _ _).alloc _
  obtain ⟨aa, cc, w1, S1, hcv, hf1, hr1⟩ := conv_bytes' (w.alloc (.cells #[.int .i64 0, .slice none 0 0] 28)) s
  have HB1 := Lib.hid (hB.fr hf1 (fun x => x))
  have HF1 := Lib.hid (hF.trans hf1)
  have HR1 := Lib.hid hr1
  clear hB hF hf1 hr1
  go_enter Tryd.func36, Tryd.ntmps36
  go_wp2_with fail
  refine (refParse_any _ _ _ (strL s) _ _ HR1.out hs).mono ?_
  rintro e w2 ⟨rfl, rfl⟩
  rw [e1]
  obtain ⟨a2, c2, w2, S2, hcv2, hf2, hr2⟩ := conv_bytes' w1 (s.extract k1 s.size)
  rw [size_from, strL_from] at hr2
  rw [size_from] at hcv2
  have HB2 := Lib.hid (HB1.out.fr hf2 (fun x => x))
  have HF2 := Lib.hid (HF1.out.trans hf2)
  have HR2 := Lib.hid hr2
  have hs2 : s.size - k1 ≤ 1099511627776 := by omega
  have hk1' : (k1 : Int) ≤ (s.size : Int) := by omega
  clear hf2 hr2 hcv HR1 HB1 HF1
  go_wp2_with fail
  refine (refParse_any _ _ _ ((strL s).drop k1) _ _ HR2.out hs2).mono ?_
  rintro e w2' ⟨rfl, rfl⟩
  clear hcv2 HR2 hs2
  rw [e2]
  go_wp2_with fail
  refine (rNew_bad f n _ (by omega)).mono ?_
  rintro e w3 ⟨rfl, hf3⟩
  unfold zeroM
  have hf4 : Fr Nothing w3 (w3.alloc (.cells #[.int .i64 0, .slice none 0 0] 28)) := (Fr.refl _ _).alloc _
  have HB3 := Lib.hid ((HB2.out.fr hf3 (fun x => x)).fr hf4 (fun x => x))
  have HF3 := Lib.hid ((HF2.out.trans hf3).trans hf4)
  have HLT : Hid (w.heap.size < w3.heap.size) := (HB2.out.fr hf3 (fun x => x)).lt
  have hlt := HLT.out
  clear h hf3 hf4
  go_upto_region 8 with fail
  generalize w3.heap.size = X at *
  generalize (w3.alloc (.cells #[.int .i64 0, .slice none 0 0] 28)) = w4 at *
  obtain ⟨x0, x2, x3, x4⟩ := HB3.out.two
  have B9 := Lib.hid (HB3.out.set2 (.int .i64 0) (.slice none 0 0))
  obtain ⟨d0, d1, _, _⟩ := B9.out.two
  have F9 : Hid (Fr Nothing w ((w4.setCell ⟨w.heap.size, 0, none⟩ (.int .i64 0)).setCell ⟨w.heap.size, 1, none⟩ (.slice none 0 0))) := HF3.out.then_ (fr_one2 w4 w.heap.size (.int .i64 0) (.slice none 0 0)) (fun i hi e => by have e' : i = w.heap.size := e; omega)
  go_wp2
  exact bodyPost_ret (v := .tuple #[zeroM, .int .i64 3]) (by simp [results, Tryd.results36, go_sem, zeroM, d0, d1]) rfl ⟨rfl, F9.out⟩

set_option maxRecDepth 100000 in
set_option maxHeartbeats 4000000 in
theorem rDecode_e3 (s : ByteArray) (w : World) (hs : s.size ≤ 1099511627776) (f k1 : Nat) (e1 : pn (strL s) 9 = (f, k1, 0)) (hk1 : k1 ≤ s.size) (n k2 : Nat) (e2 : pn ((strL s).drop k1) 9 = (n, k2, 0)) (hk2 : k1 + k2 ≤ s.size) (hf : f ≤ 1073741824) (h1 : 1 ≤ n) (hn : n ≤ 65536) (h : (pn ((strL s).drop (k1 + k2)) 9).2.2 ≠ 0) :
    Calls Tryd.prog 36 #[.string s] w (Gives w (.tuple #[zeroM, .int .i64 3])) := by
  have hB := Blk.new w 28 #[.int .i64 0, .slice none 0 0]
  have hF : Fr Nothing w (w.alloc (.cells #[.int .i64 0, .slice none 0 0] 28)) := (Fr.refl _ _).alloc _
  obtain ⟨aa, cc, w1, S1, hcv, hf1, hr1⟩ := conv_bytes' (w.alloc (.cells #[.int .i64 0, .slice none 0 0] 28)) s
  have HB1 := Lib.hid (hB.fr hf1 (fun x => x))
  have HF1 := Lib.hid (hF.trans hf1)
  have HR1 := Lib.hid hr1
  clear hB hF hf1 hr1
  go_enter Tryd.func36, Tryd.ntmps36
  go_wp2_with fail
  refine (refParse_any _ _ _ (strL s) _ _ HR1.out hs).mono ?_
  rintro e w2 ⟨rfl, rfl⟩
  rw [e1]
  obtain ⟨a2, c2, w2, S2, hcv2, hf2, hr2⟩ := conv_bytes' w1 (s.extract k1 s.size)
  rw [size_from, strL_from] at hr2
  rw [size_from] at hcv2
  have HB2 := Lib.hid (HB1.out.fr hf2 (fun x => x))
  have HF2 := Lib.hid (HF1.out.trans hf2)
  have HR2 := Lib.hid hr2
  have hs2 : s.size - k1 ≤ 1099511627776 := by omega
  have hk1' : (k1 : Int) ≤ (s.size : Int) := by omega
  clear hf2 hr2 hcv HR1 HB1 HF1
  go_wp2_with fail
  refine (refParse_any _ _ _ ((strL s).drop k1) _ _ HR2.out hs2).mono ?_
  rintro e w2' ⟨rfl, rfl⟩
  clear hcv2 HR2 hs2
  rw [e2]
  go_wp2_with fail
  refine (rNew_ok f n _ hf h1 hn).mono ?_
  rintro e w3 ⟨b, c, rfl, hr3, hf3⟩
  have hf4 : Fr Nothing w3 (w3.alloc (.cells #[.int .i64 f, .slice (some ⟨b, 0, none⟩) n c] 28)) := (Fr.refl _ _).alloc _
  have HB3 := Lib.hid ((HB2.out.fr hf3 (fun x => x)).fr hf4 (fun x => x))
  have HF3 := Lib.hid ((HF2.out.trans hf3).trans hf4)
  have HX3 := Lib.hid (Blk.new w3 28 #[.int .i64 f, .slice (some ⟨b, 0, none⟩) n c])
  have HM3 := Lib.hid (hr3.fr0 hf4)
  have HLT : Hid (w.heap.size < w3.heap.size) := (HB2.out.fr hf3 (fun x => x)).lt
  clear hr3 hf3 hf4 HB2 HF2
  unfold mv
  go_upto_region 8 with fail
  generalize w3.heap.size = X at *
  generalize (w3.alloc (.cells #[.int .i64 f, .slice (some ⟨b, 0, none⟩) n c] 28)) = w4 at *
  obtain ⟨k3, hk3⟩ : ∃ k3 : Nat, k3 = k1 + k2 := ⟨_, rfl⟩
  have hadd : (k1 : Int) + (k2 : Int) = (k3 : Int) := by omega
  have hk3' : (k3 : Int) ≤ (s.size : Int) := by omega
  have wk3 : IntKind.i64.wrap (k3 : Int) = (k3 : Int) := IntWalk.i64_in _ (by omega)
  have wk4 : IntKind.i64.wrap ((k1 : Int) + (k2 : Int)) = (k3 : Int) := by rw [hadd]; exact wk3
  have HK3 := Lib.hid hk3
  have hs5 : s.size - k3 ≤ 1099511627776 := by omega
  clear hk3
  obtain ⟨a5, c5, w5, S5, hcv5, hf5, hr5⟩ := conv_bytes' w4 (s.extract k3 s.size)
  rw [size_from, strL_from] at hr5
  rw [size_from] at hcv5
  have HB5 := Lib.hid (HB3.out.fr hf5 (fun x => x))
  have HX5 := Lib.hid (HX3.out.fr hf5 (fun x => x))
  have HM5 := Lib.hid (HM3.out.fr0 hf5)
  have HF5 := Lib.hid (HF3.out.trans hf5)
  have HR5 := Lib.hid hr5
  clear hf5 hr5 HB3 HX3 HM3 HF3
  go_wp2_with fail
  refine (refParse_any _ _ _ ((strL s).drop k3) _ _ HR5.out hs5).mono ?_
  rintro e w5' ⟨rfl, rfl⟩
  rw [HK3.out]
  clear hcv5 HR5 hs5 wk3 wk4 hadd hk3'
  have hz : (((pn ((strL s).drop (k1 + k2)) 9).2.2 : Nat) : Int) ≠ 0 := by omega
  have hzb : ((((pn ((strL s).drop (k1 + k2)) 9).2.2 : Nat) : Int) != 0) = true := by rw [bne_iff_ne]; exact hz
  generalize (((pn ((strL s).drop (k1 + k2)) 9).2.2 : Nat) : Int) = z1 at *
  generalize (((pn ((strL s).drop (k1 + k2)) 9).2.1 : Nat) : Int) = y1 at *
  generalize (((pn ((strL s).drop (k1 + k2)) 9).1 : Nat) : Int) = x1 at *
  obtain ⟨x0, x2, x3, x4⟩ := HB5.out.two
  have B9 := Lib.hid (HB5.out.set2 (.int .i64 0) (.slice none 0 0))
  obtain ⟨d0, d1, _, _⟩ := B9.out.two
  have F9 : Hid (Fr Nothing w ((w5.setCell ⟨w.heap.size, 0, none⟩ (.int .i64 0)).setCell ⟨w.heap.size, 1, none⟩ (.slice none 0 0))) := HF5.out.then_ (fr_one2 w5 w.heap.size (.int .i64 0) (.slice none 0 0)) (fun i hi e => by have e' : i = w.heap.size := e; omega)
  clear h hz
  go_wp2
  exact bodyPost_ret (v := .tuple #[zeroM, .int .i64 3]) (by simp [results, Tryd.results36, go_sem, zeroM, d0, d1]) rfl ⟨rfl, F9.out⟩

set_option maxRecDepth 100000 in
set_option maxHeartbeats 4000000 in
theorem rDecode_len (s : ByteArray) (w : World) (hs : s.size ≤ 1099511627776) (f k1 : Nat) (e1 : pn (strL s) 9 = (f, k1, 0)) (hk1 : k1 ≤ s.size) (n k2 : Nat) (e2 : pn ((strL s).drop k1) 9 = (n, k2, 0)) (hk2 : k1 + k2 ≤ s.size) (hf : f ≤ 1073741824) (h1 : 1 ≤ n) (hn : n ≤ 65536) (x3 k4 : Nat) (e3 : pn ((strL s).drop (k1 + k2)) 9 = (x3, k4, 0)) (hk4 : k1 + k2 + k4 ≤ s.size) (h : s.size ≠ k1 + k2 + k4 + (n + 7) / 8) :
    Calls Tryd.prog 36 #[.string s] w (Gives w (.tuple #[zeroM, .int .i64 3])) := by
  have hB := Blk.new w 28 #[.int .i64 0, .slice none 0 0]
  have hF : Fr Nothing w (w.alloc (.cells #[.int .i64 0, .slice none 0 0] 28)) := (Fr.refl _ _).alloc _
  obtain ⟨aa, cc, w1, S1, hcv, hf1, hr1⟩ := conv_bytes' (w.alloc (.cells #[.int .i64 0, .slice none 0 0] 28)) s
  have HB1 := Lib.hid (hB.fr hf1 (fun x => x))
  have HF1 := Lib.hid (hF.trans hf1)
  have HR1 := Lib.hid hr1
  clear hB hF hf1 hr1
  go_enter Tryd.func36, Tryd.ntmps36
  go_wp2_with fail
  refine (refParse_any _ _ _ (strL s) _ _ HR1.out hs).mono ?_
  rintro e w2 ⟨rfl, rfl⟩
  rw [e1]
  obtain ⟨a2, c2, w2, S2, hcv2, hf2, hr2⟩ := conv_bytes' w1 (s.extract k1 s.size)
  rw [size_from, strL_from] at hr2
  rw [size_from] at hcv2
  have HB2 := Lib.hid (HB1.out.fr hf2 (fun x => x))
  have HF2 := Lib.hid (HF1.out.trans hf2)
  have HR2 := Lib.hid hr2
  have hs2 : s.size - k1 ≤ 1099511627776 := by omega
  have hk1' : (k1 : Int) ≤ (s.size : Int) := by omega
  clear hf2 hr2 hcv HR1 HB1 HF1
  go_wp2_with fail
  refine (refParse_any _ _ _ ((strL s).drop k1) _ _ HR2.out hs2).mono ?_
  rintro e w2' ⟨rfl, rfl⟩
  clear hcv2 HR2 hs2
  rw [e2]
  go_wp2_with fail
  refine (rNew_ok f n _ hf h1 hn).mono ?_
  rintro e w3 ⟨b, c, rfl, hr3, hf3⟩
  have hf4 : Fr Nothing w3 (w3.alloc (.cells #[.int .i64 f, .slice (some ⟨b, 0, none⟩) n c] 28)) := (Fr.refl _ _).alloc _
  have HB3 := Lib.hid ((HB2.out.fr hf3 (fun x => x)).fr hf4 (fun x => x))
  have HF3 := Lib.hid ((HF2.out.trans hf3).trans hf4)
  have HX3 := Lib.hid (Blk.new w3 28 #[.int .i64 f, .slice (some ⟨b, 0, none⟩) n c])
  have HM3 := Lib.hid (hr3.fr0 hf4)
  have HLT : Hid (w.heap.size < w3.heap.size) := (HB2.out.fr hf3 (fun x => x)).lt
  clear hr3 hf3 hf4 HB2 HF2
  unfold mv
  go_upto_region 8 with fail
  generalize w3.heap.size = X at *
  generalize (w3.alloc (.cells #[.int .i64 f, .slice (some ⟨b, 0, none⟩) n c] 28)) = w4 at *
  obtain ⟨k3, hk3⟩ : ∃ k3 : Nat, k3 = k1 + k2 := ⟨_, rfl⟩
  have hadd : (k1 : Int) + (k2 : Int) = (k3 : Int) := by omega
  have hk3' : (k3 : Int) ≤ (s.size : Int) := by omega
  have wk3 : IntKind.i64.wrap (k3 : Int) = (k3 : Int) := IntWalk.i64_in _ (by omega)
  have wk4 : IntKind.i64.wrap ((k1 : Int) + (k2 : Int)) = (k3 : Int) := by rw [hadd]; exact wk3
  have HK3 := Lib.hid hk3
  have hs5 : s.size - k3 ≤ 1099511627776 := by omega
  clear hk3
  obtain ⟨a5, c5, w5, S5, hcv5, hf5, hr5⟩ := conv_bytes' w4 (s.extract k3 s.size)
  rw [size_from, strL_from] at hr5
  rw [size_from] at hcv5
  have HB5 := Lib.hid (HB3.out.fr hf5 (fun x => x))
  have HX5 := Lib.hid (HX3.out.fr hf5 (fun x => x))
  have HM5 := Lib.hid (HM3.out.fr0 hf5)
  have HF5 := Lib.hid (HF3.out.trans hf5)
  have HR5 := Lib.hid hr5
  clear hf5 hr5 HB3 HX3 HM3 HF3
  go_wp2_with fail
  refine (refParse_any _ _ _ ((strL s).drop k3) _ _ HR5.out hs5).mono ?_
  rintro e w5' ⟨rfl, rfl⟩
  rw [HK3.out]
  clear hcv5 HR5 hs5 wk3 wk4 hadd hk3'
  rw [e3]
  have hqb : ((s.size : Int) != (k1 : Int) + (k2 : Int) + (k4 : Int) + ((n : Int) + 7) / 8) = true := by rw [bne_iff_ne]; omega
  obtain ⟨x0, x2, x3, x4⟩ := HB5.out.two
  have B9 := Lib.hid (HB5.out.set2 (.int .i64 0) (.slice none 0 0))
  obtain ⟨d0, d1, _, _⟩ := B9.out.two
  have F9 : Hid (Fr Nothing w ((w5.setCell ⟨w.heap.size, 0, none⟩ (.int .i64 0)).setCell ⟨w.heap.size, 1, none⟩ (.slice none 0 0))) := HF5.out.then_ (fr_one2 w5 w.heap.size (.int .i64 0) (.slice none 0 0)) (fun i hi e => by have e' : i = w.heap.size := e; omega)
  clear h
  go_wp2
  exact bodyPost_ret (v := .tuple #[zeroM, .int .i64 3]) (by simp [results, Tryd.results36, go_sem, zeroM, d0, d1]) rfl ⟨rfl, F9.out⟩

end Go.Proofs.YtejajafbopabmaaDoor
