/- Image.Memory. -/
import Derived.Test.YtfdcmjjafngonaaDoorImD
namespace Go.Proofs.YtfdcmjjafngonaaDoor
open Go.RowKit

theorem strL_append (a b : ByteArray) : strL (a ++ b) = strL a ++ strL b := by simp [strL]
theorem ba_of (s : ByteArray) (l : List UInt8) (h : strL s = l) : s = ⟨l.toArray⟩ := by rw [← h]; simp [strL]
theorem strL_mk (l : List UInt8) : strL ⟨l.toArray⟩ = l := by simp [strL]
theorem fr_below {w w' : World} (h : Below w.heap.size w w') : Fr Nothing w w' := ⟨h.os, h.tape, h.output, h.size, fun k hk _ => h.block k hk⟩
theorem repeat_zero (n : Nat) : Lib.repeatL (⟨#[0]⟩ : ByteArray).data.toList n = List.replicate n 0 := by
  show Lib.repeatL [0] n = _
  induction n with
  | zero => rfl
  | succ n ih =>
    simp [Lib.repeatL, List.replicate_succ] at ih ⊢
    exact ih

/-- What the pages hold. -/
def memL (c d : List UInt8) (z e : Int) : List UInt8 :=
  if checkI c.length d.length z e = 0 then c ++ List.replicate (upN c.length - c.length) 0 ++ d ++ List.replicate (upN (endP c.length d.length z e) - (upN c.length + d.length)) 0 else []
theorem memL_length (c d : List UInt8) (z e : Int) : (memL c d z e).length = upN (endP c.length d.length z e) := by
  unfold memL
  split
  · rename_i h
    have h1 := upN_le c.length
    have h2 := upN_le (endP c.length d.length z e)
    have h3 : endP c.length d.length z e = upN c.length + d.length + z.toNat := by unfold endP; rw [if_pos h]
    simp
    omega
  · rename_i h
    unfold endP
    rw [if_neg h]
    rfl

theorem Repeat_any (n : Nat) (w : World) (hn : n ≤ 1099511627776) : Calls Tryd.prog 52 #[.string ⟨#[0]⟩, .int .i64 n] w (SameIn w (.string ⟨(List.replicate n 0).toArray⟩)) := by
  have h := Tryd.strings_Repeat ⟨#[0]⟩ n w (by omega) (by simp [ByteArray.size]; omega)
  rw [repeat_zero] at h
  exact h.mono fun e w' ⟨h1, h2⟩ => ⟨h1, fr_below h2⟩

set_option maxRecDepth 100000 in
set_option maxHeartbeats 1000000 in
theorem Memory_any (c d : ByteArray) (z e : Int) (w : World) (hc : c.size ≤ 1099511627776) (hd : d.size ≤ 1099511627776) (hz : -9223372036854775808 ≤ z ∧ z ≤ 9223372036854775807) (he : -9223372036854775808 ≤ e ∧ e ≤ 9223372036854775807) :
    Calls Tryd.prog 30 #[imgV c d z e] w (SameIn w (.string ⟨(memL (strL c) (strL d) z e).toArray⟩)) := by
  have CH := Lib.hid (fun w => Check_any c d z e w hc hd hz he)
  have hcr := checkI_range c.size d.size z e
  by_cases hk : checkI c.size d.size z e = 0
  · have CU := Lib.hid (fun w => dataAt_any c d z e w (by omega))
    have CN := Lib.hid (fun w => NumPages_any c d z e w hc hd hz he)
    have hu := upN_le c.size
    have hle := endP_le c.size d.size z e
    have hE : endP c.size d.size z e = upN c.size + d.size + z.toNat := by unfold endP; rw [if_pos hk]
    have hok := checkI_ok hk
    have h3 := upN_le (endP c.size d.size z e)
    have hup : upN (endP c.size d.size z e) = (endP c.size d.size z e + 63) / 64 * 64 := rfl
    obtain ⟨a, ha⟩ : ∃ a, a = upN c.size - c.size := ⟨_, rfl⟩
    obtain ⟨b, hb⟩ : ∃ b, b = upN (endP c.size d.size z e) - (upN c.size + d.size) := ⟨_, rfl⟩
    have hM : memL (strL c) (strL d) z e = strL c ++ List.replicate a 0 ++ strL d ++ List.replicate b 0 := by
      unfold memL
      rw [strL_length, strL_length, if_pos hk, ha, hb]
    obtain ⟨ra, hra⟩ : ∃ ra : ByteArray, ra = ⟨(List.replicate a 0).toArray⟩ := ⟨_, rfl⟩
    obtain ⟨rb, hrb⟩ : ∃ rb : ByteArray, rb = ⟨(List.replicate b 0).toArray⟩ := ⟨_, rfl⟩
    have la : strL ra = List.replicate a 0 := by rw [hra, strL_mk]
    have lb : strL rb = List.replicate b 0 := by rw [hrb, strL_mk]
    have CA := Lib.hid (fun w => Repeat_any a w (by omega))
    have CB := Lib.hid (fun w => Repeat_any b w (by omega))
    rw [← hra] at CA
    rw [← hrb] at CB
    have a1 : ((upN c.size : Nat) : Int) - (c.size : Int) = (a : Int) := by omega
    obtain ⟨M, hMd⟩ : ∃ M : ByteArray, M = c ++ ra ++ d := ⟨_, rfl⟩
    have hMs : M.size = upN c.size + d.size := by
      rw [← strL_length, hMd, strL_append, strL_append, la]
      simp only [List.length_append, List.length_replicate, strL_length]
      omega
    have hp : (((endP c.size d.size z e + 63) / 64 : Nat) : Int) * 64 = ((upN (endP c.size d.size z e) : Nat) : Int) := by rw [hup]; omega
    have a2 : ((upN (endP c.size d.size z e) : Nat) : Int) - (M.size : Int) = (b : Int) := by omega
    have hR : M ++ rb = (⟨(memL (strL c) (strL d) z e).toArray⟩ : ByteArray) := by
      apply ba_of
      rw [hM, strL_append, hMd, strL_append, strL_append, la, lb]
    rw [← hR]
    have b1 : (endP c.size d.size z e + 63) / 64 ≤ 4200 := by omega
    have b2 : upN (endP c.size d.size z e) ≤ 4200 := by omega
    have b3 : a ≤ 4200 := by omega
    have b4 : b ≤ 4200 := by omega
    have b7 : ra.size ≤ 4200 := by rw [← strL_length, la, List.length_replicate]; exact b3
    have b8 : rb.size ≤ 4200 := by rw [← strL_length, lb, List.length_replicate]; exact b4
    have b9 : c.size ≤ 4200 := by omega
    have b10 : d.size ≤ 4200 := by omega
    have HMD := Lib.hid hMd
    have b5 : upN c.size ≤ 4200 := by omega
    have b6 : M.size ≤ 4200 := by omega
    clear la lb hra hrb hM hR ha hb hE hok h3 hle hup hu hMd hMs
    generalize upN (endP c.size d.size z e) = U at *
    generalize (endP c.size d.size z e + 63) / 64 = P at *
    generalize upN c.size = u at *
    rw [hk] at CH
    clear hk hcr
    go_enter Tryd.func30, Tryd.ntmps30
    go_wp2_with (refine wpList_boxBlk rfl 27 (.tmp 0) rfl _ rfl ?_)
    intro w1 n1
    have BW : Hid (Blk w1 w.heap.size 27 (imgC c d z e)) := n1.blk
    have FW := Lib.hid n1.fr
    clear n1
    obtain ⟨k0, k1, k2, k3⟩ := img_cells BW.out (Fr.refl _ _)
    generalize w.heap.size = g at *
    go_wp2_with fail
    refine (CH.out _).mono ?_
    rintro e' w2 ⟨rfl, f2⟩
    have FX := Lib.hid (FW.out.trans f2)
    have BX := Lib.hid (BW.out.fr f2 (fun x => x))
    clear k0 k1 k2 k3 f2 BW
    go_wp2
    have q0 : ∀ y : In (Later w2), y.w.cell? ⟨g, 0, none⟩ = some (.string c) := fun y => (img_cells BX.out y.h).1
    have q1 : ∀ y : In (Later w2), y.w.cell? ⟨g, 1, none⟩ = some (.string d) := fun y => (img_cells BX.out y.h).2.1
    have q2 : ∀ y : In (Later w2), y.w.cell? ⟨g, 2, none⟩ = some (.int .i64 z) := fun y => (img_cells BX.out y.h).2.2.1
    have q3 : ∀ y : In (Later w2), y.w.cell? ⟨g, 3, none⟩ = some (.int .i64 e) := fun y => (img_cells BX.out y.h).2.2.2
    refine wp_region_in (Later w2) ((Fr.refl _ _).drew) (by kernel_rfl) (by kernel_rfl) ?_
    repeat (go_big_quiet_step (first | (go_at_call 31; exact In.later (CU.out _)) | (go_at_call 52; exact In.later (CA.out _))))
    refine wpQuiet_nil ?_
    rintro _ ⟨y, rfl⟩
    have FY := Lib.hid (FX.out.trans y.h)
    obtain ⟨k0, k1, k2, k3⟩ := img_cells BX.out y.h
    generalize y.w = w5 at *
    clear q0 q1 q2 q3 y CU CA
    simp only [← HMD.out]
    go_wp2_with fail
    refine (CN.out _).mono ?_
    rintro e' w6 ⟨rfl, f6⟩
    have F6 := Lib.hid (FY.out.trans f6)
    clear f6 k0 k1 k2 k3
    go_wp2_with fail
    refine (CB.out _).mono ?_
    rintro e' w7 ⟨rfl, f7⟩
    have F7 := Lib.hid (F6.out.trans f7)
    clear f7
    go_wp2
    go_ret
    exact ⟨rfl, F7.out⟩
  · have t1 : (checkI c.size d.size z e != 0) = true := by rw [bne_iff_ne]; exact hk
    have hM : memL (strL c) (strL d) z e = [] := by
      unfold memL
      rw [strL_length, strL_length, if_neg hk]
    rw [hM]
    clear hM hk
    generalize checkI c.size d.size z e = k at *
    go_enter Tryd.func30, Tryd.ntmps30
    go_wp2_with (refine wpList_boxBlk rfl 27 (.tmp 0) rfl _ rfl ?_)
    intro w1 n1
    have BW : Hid (Blk w1 w.heap.size 27 (imgC c d z e)) := n1.blk
    have FW := Lib.hid n1.fr
    clear n1
    obtain ⟨k0, k1, k2, k3⟩ := img_cells BW.out (Fr.refl _ _)
    generalize w.heap.size = g at *
    go_wp2_with fail
    refine (CH.out _).mono ?_
    rintro e' w2 ⟨rfl, f2⟩
    have FX := Lib.hid (FW.out.trans f2)
    clear f2
    go_wp2
    go_ret
    exact ⟨rfl, FX.out⟩
end Go.Proofs.YtfdcmjjafngonaaDoor
