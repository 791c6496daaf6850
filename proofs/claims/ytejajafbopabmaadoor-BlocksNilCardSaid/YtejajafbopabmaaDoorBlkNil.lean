/- The walk of BlocksNil. -/
import Derived.Test.YtejajafbopabmaaDoorBlkN
namespace Go.Proofs.YtejajafbopabmaaDoor
open Go.RowKit

theorem byteAt_zeros (n i : Nat) : byteAt (List.replicate n 0) i = 0 := by
  unfold byteAt
  rw [List.getElem?_replicate]
  split <;> rfl
theorem zeros_out {f n : Nat} {k : Int} (h : isIn f n k = false) : stAt f (List.replicate n 0) k = 0 ∧ stErr f (List.replicate n 0) k = 2 ∧ giveE f (List.replicate n 0) k = 2 := by
  unfold stAt stErr giveE
  rw [List.length_replicate, h]
  exact ⟨rfl, rfl, rfl⟩
theorem zeros_in {f n : Nat} {k : Int} (h : isIn f n k = true) : stAt f (List.replicate n 0) k = 0 ∧ stErr f (List.replicate n 0) k = 0 ∧ giveE f (List.replicate n 0) k = 10 := by
  unfold stAt stErr giveE
  rw [List.length_replicate, h, byteAt_zeros]
  exact ⟨rfl, rfl, rfl⟩

set_option maxRecDepth 100000 in
set_option maxHeartbeats 4000000 in
theorem BlocksNil_any (x y : Nat) (k : Int) (w : World) (hx : x < 65536) (hy : y < 256) (hk1 : -9223372036854775808 ≤ k) (hk2 : k ≤ 9223372036854775807) (tc : TabC w) (ta : TabA w) (h3 : 2 ≤ w.heap.size) :
    Calls Tryd.prog 8 #[.int .u16 x, .int .u8 y, .int .i64 k] w (TrueNew w) := by
  have HT := Lib.hid tc
  have HA := Lib.hid ta
  clear tc ta
  go_enter Tryd.func8, Tryd.ntmps8
  go_wp2_with fail
  refine (known_any _ HT.out h3).mono ?_
  rintro e w1 ⟨rfl, hf1⟩
  have F1 := Lib.hid hf1
  clear hf1
  go_wp2_with fail
  refine (begin_any x y _ hx hy (Nat.le_trans h3 F1.out.size)).mono ?_
  rintro e w2 ⟨g, b, c, b2, c2, rfl, hm, hr⟩
  have hfn : x % 1000 ≤ 1000 := by omega
  have hnn : 1 + y % 40 ≤ 40 := by omega
  generalize x % 1000 = f at *
  generalize 1 + y % 40 = n at *
  have M2 := Lib.hid (hm.fr0 ((Fr.refl _ w2).alloc (.cells #[.int .i64 f, .slice (some ⟨b2, 0, none⟩) n c2] 28)))
  have X2 := Lib.hid (Blk.new w2 28 #[.int .i64 f, .slice (some ⟨b2, 0, none⟩) n c2])
  clear hm hr
  unfold mv
  have hcase : (decide ((f : Int) ≤ k) = false ∧ Hid (isIn f n k = false)) ∨ (decide ((f : Int) ≤ k) = true ∧ decide (k < (f : Int) + (n : Int)) = false ∧ Hid (isIn f n k = false)) ∨ (decide ((f : Int) ≤ k) = true ∧ decide (k < (f : Int) + (n : Int)) = true ∧ Hid (isIn f n k = true)) := by
    by_cases a : (f : Int) ≤ k
    · by_cases d : k < (f : Int) + (n : Int)
      · exact .inr (.inr ⟨by simpa using a, by simpa using d, isIn_yes a d⟩)
      · exact .inr (.inl ⟨by simpa using a, by simpa using d, isIn_hi (by omega)⟩)
    · exact .inl ⟨by simpa using a, isIn_lo (by omega)⟩
  have CS := Lib.hid (fun w' (hb : BM w' g b c f n (List.replicate n 0)) => State_any g b c f n (List.replicate n 0) k w' hb)
  have CG := Lib.hid (fun w' (hb : BM w' g b c f n (List.replicate n 0)) => Give_any g b c f n (List.replicate n 0) k w' hb)
  rcases hcase with ⟨d1, HI⟩ | ⟨d1, d2, HI⟩ | ⟨d1, d2, HI⟩
  all_goals
    first
      | (obtain ⟨z1, z2, z3⟩ := zeros_out HI.out; rw [z1, z2] at CS; rw [z3] at CG; clear z1 z2 z3)
      | (obtain ⟨z1, z2, z3⟩ := zeros_in HI.out; rw [z1, z2] at CS; rw [z3] at CG; clear z1 z2 z3)
    go_wp2_with fail
    refine (CS.out _ M2.out.m).mono ?_
    rintro e w3 ⟨rfl, hf3⟩
    have M3 := Lib.hid (M2.out.fr0 hf3)
    clear hf3
    go_wp2_with fail
    refine (CG.out _ M3.out.m).mono ?_
    rintro e w4 ⟨rfl, hf4, _⟩
    have F4 := Lib.hid (F1.out.trans (M3.out.fr.own1 hf4 M3.out.hb))
    clear hf4 M3 CS CG
    have T4 := Lib.hid (HT.out.fr0 F4.out)
    have A4 := Lib.hid (HA.out.fr0 F4.out)
    go_wp2_with fail
    refine (State_nil k _).mono ?_
    rintro e w5 ⟨rfl, hf5⟩
    have F5 := Lib.hid (F4.out.trans hf5)
    clear hf5
    go_wp2_with fail
    refine (Take_nil _).mono ?_
    rintro e w6 ⟨rfl, hf6⟩
    have F6 := Lib.hid (F5.out.trans hf6)
    clear hf6
    go_wp2_with fail
    refine (Give_nil k _).mono ?_
    rintro e w7 ⟨rfl, hf7⟩
    have F7 := Lib.hid (F6.out.trans hf7)
    clear hf7
    go_wp2_with fail
    refine (Commit_nil _ (HT.out.fr0 F7.out)).mono ?_
    rintro e w8 ⟨rfl, hf8⟩
    have F8 := Lib.hid (F7.out.trans hf8)
    clear hf8
    go_wp2_with fail
    refine (Abort_nil _ (HA.out.fr0 F8.out)).mono ?_
    rintro e w9 ⟨rfl, hf9⟩
    have F9 := Lib.hid (F8.out.trans hf9)
    clear hf9
    go_wp2_with fail
    refine (First_nil _).mono ?_
    rintro e w10 ⟨rfl, hf10⟩
    have F10 := Lib.hid (F9.out.trans hf10)
    clear hf10
    go_wp2_with fail
    refine (Count_nil _).mono ?_
    rintro e w11 ⟨rfl, hf11⟩
    have F11 := Lib.hid (F10.out.trans hf11)
    clear hf11
    go_wp2_with fail
    refine (Number_nil 0 _).mono ?_
    rintro e w12 ⟨rfl, hf12⟩
    have F12 := Lib.hid (F11.out.trans hf12)
    clear hf12
    go_wp2_with fail
    refine (Used_nil _).mono ?_
    rintro e w13 ⟨v13, rfl, hg13⟩
    have F13 := Lib.hid (F12.out.trans hg13.fr0)
    obtain ⟨A13, n13, c13, rfl, h13, _⟩ := own_slice hg13.own
    obtain rfl : n13 = 0 := by simpa using h13.out
    clear hg13 h13
    go_wp2_with fail
    refine (Old_nil _).mono ?_
    rintro e w14 ⟨v14, rfl, hg14⟩
    have F14 := Lib.hid (F13.out.trans hg14.fr0)
    obtain ⟨A14, n14, c14, rfl, h14, _⟩ := own_slice hg14.own
    obtain rfl : n14 = 0 := by simpa using h14.out
    clear hg14 h14
    go_wp2_with fail
    refine (Encode_nil _).mono ?_
    rintro e w15 ⟨rfl, hf15⟩
    have F15 := Lib.hid (F14.out.trans hf15)
    clear hf15
    go_wp2_with fail
    refine (Clone_nil _).mono ?_
    rintro e w16 ⟨rfl, hf16⟩
    have F16 := Lib.hid (F15.out.trans hf16)
    clear hf16
    go_wp2_with fail
    refine (Equal_nil0 _).mono ?_
    rintro e w17 ⟨rfl, hf17⟩
    have F17 := Lib.hid (F16.out.trans hf17)
    clear hf17
    go_wp2_with fail
    refine (Equal_nil1 _ _).mono ?_
    rintro e w18 ⟨rfl, hf18⟩
    have F18 := Lib.hid (F17.out.trans hf18)
    clear hf18
    go_wp2_with fail
    refine (Equal_nil2 _ _).mono ?_
    rintro e w19 ⟨rfl, hf19⟩
    have F19 := Lib.hid (F18.out.trans hf19)
    clear hf19
    go_wp2
    go_ret
    exact ⟨rfl, F19.out⟩

theorem TabAt.size {t : UInt8 → UInt8} {w : World} (h : TabAt 1 t w) : 2 ≤ w.heap.size := by
  have e := h 0 (by omega)
  rw [tabV_at t 0 (by omega)] at e
  have := World.block_lt_of_cell? w _ e
  simp at this
  omega

theorem BlocksNil_int (x y : Int) (k : Int) (w : World) (hx : 0 ≤ x ∧ x < 65536) (hy : 0 ≤ y ∧ y < 256) (hk1 : -9223372036854775808 ≤ k) (hk2 : k ≤ 9223372036854775807) (tc : TabC w) (ta : TabA w) :
    Calls Tryd.prog 8 #[.int .u16 x, .int .u8 y, .int .i64 k] w (TrueNew w) := by
  obtain ⟨a, rfl⟩ := Int.eq_ofNat_of_zero_le hx.1
  obtain ⟨b, rfl⟩ := Int.eq_ofNat_of_zero_le hy.1
  exact BlocksNil_any a b k w (by omega) (by omega) hk1 hk2 tc ta tc.size
end Go.Proofs.YtejajafbopabmaaDoor
