/- The walk of BlocksDecodes. -/
import Derived.Test.YtejajafbopabmaaDoorBlkO
import Derived.Test.YtejajafbopabmaaDoorBlkW
import Derived.Test.YtejajafbopabmaaDoorBlkI
import Derived.Test.YtejajafbopabmaaDoorBlkKa
import Derived.Test.YtejajafbopabmaaDoorBlkZ
namespace Go.Proofs.YtejajafbopabmaaDoor
open Go.RowKit

/-- What both Decodes answer: both refuse, or both give the same map, whose encoding the text is. -/
def DecBad (s : ByteArray) : Prop :=
  (∀ w : World, 2 ≤ w.heap.size → Calls Tryd.prog 35 #[.string s] w (Gives w (.tuple #[.pointer none, .int .i64 3]))) ∧ (∀ w : World, Calls Tryd.prog 36 #[.string s] w (Gives w (.tuple #[zeroM, .int .i64 3])))
def RDec (w : World) (f n : Nat) (l : List UInt8) (e : Ending) (w' : World) : Prop :=
  ∃ b c, e = .returned (.tuple #[mv f b c n, .int .i64 0]) ∧ RM w' b c n l ∧ Fr Nothing w w'
def DecGood (s : ByteArray) (f n : Nat) (l : List UInt8) : Prop :=
  (∀ w : World, 2 ≤ w.heap.size → Calls Tryd.prog 35 #[.string s] w (NewMap w f n l)) ∧ (∀ w : World, Calls Tryd.prog 36 #[.string s] w (RDec w f n l)) ∧
  (⟨(encB f n (bitsOf ((n + 7) / 8) (pickF l 1 2 n n))).toArray⟩ : ByteArray) = s

theorem drop_encB1 (f n : Nat) (B : List UInt8) : (encB f n B).drop (enc f).length = enc n ++ (enc B.length ++ B) := by
  unfold encB
  rw [List.append_assoc, List.drop_left]
theorem drop_encB2 (f n : Nat) (B : List UInt8) : (encB f n B).drop ((enc f).length + (enc n).length) = enc B.length ++ B := by
  rw [← List.drop_drop, drop_encB1, List.drop_left]
theorem drop_encB3 (f n : Nat) (B : List UInt8) : (encB f n B).drop ((enc f).length + (enc n).length + (enc B.length).length) = B := by
  rw [← List.drop_drop, drop_encB2, List.drop_left]

/-- The reference refuses what does not close. -/
theorem rDecode_close (s : ByteArray) (w : World) (hs : s.size ≤ 1099511627776) (h : closeE (rs3 (strL s)).2 ≠ 0) :
    Calls Tryd.prog 36 #[.string s] w (Gives w (.tuple #[zeroM, .int .i64 3])) := by
  by_cases a1 : (pn (strL s) 9).2.2 ≠ 0
  · exact rDecode_e1 s w hs a1
  · have e1 : pn (strL s) 9 = ((pn (strL s) 9).1, (pn (strL s) 9).2.1, 0) := Prod.ext rfl (Prod.ext rfl (by simpa using a1))
    have z1 := (pn_size (strL s) 9 (by omega)).2
    have y1 := pn_lt9 (strL s)
    rw [strL_length] at z1
    generalize (pn (strL s) 9).1 = f at *
    generalize (pn (strL s) 9).2.1 = k1 at *
    clear a1
    by_cases a2 : (pn ((strL s).drop k1) 9).2.2 ≠ 0
    · exact rDecode_e2 s w hs f k1 e1 z1 a2
    · have e2 : pn ((strL s).drop k1) 9 = ((pn ((strL s).drop k1) 9).1, (pn ((strL s).drop k1) 9).2.1, 0) := Prod.ext rfl (Prod.ext rfl (by simpa using a2))
      have z2 := (pn_size ((strL s).drop k1) 9 (by omega)).2
      have y2 := pn_lt9 ((strL s).drop k1)
      rw [List.length_drop, strL_length] at z2
      generalize (pn ((strL s).drop k1) 9).1 = n at *
      generalize (pn ((strL s).drop k1) 9).2.1 = k2 at *
      clear a2
      by_cases a3 : 1073741824 < f ∨ n < 1 ∨ 65536 < n
      · exact rDecode_new s w hs f k1 e1 z1 y1 n k2 e2 y2 a3
      · have z12 : k1 + k2 ≤ s.size := by omega
        by_cases a4 : (pn ((strL s).drop (k1 + k2)) 9).2.2 ≠ 0
        · exact rDecode_e3 s w hs f k1 e1 z1 n k2 e2 z12 (by omega) (by omega) (by omega) a4
        · have e3 : pn ((strL s).drop (k1 + k2)) 9 = ((pn ((strL s).drop (k1 + k2)) 9).1, (pn ((strL s).drop (k1 + k2)) 9).2.1, 0) := Prod.ext rfl (Prod.ext rfl (by simpa using a4))
          have z3 := (pn_size ((strL s).drop (k1 + k2)) 9 (by omega)).2
          rw [List.length_drop, strL_length] at z3
          generalize (pn ((strL s).drop (k1 + k2)) 9).1 = x3 at *
          generalize (pn ((strL s).drop (k1 + k2)) 9).2.1 = k4 at *
          clear a4
          by_cases a5 : s.size = k1 + k2 + k4 + (n + 7) / 8
          · refine (rDecode_end s w hs f k1 e1 z1 n k2 e2 z12 (by omega) (by omega) (by omega) x3 k4 e3 (by omega) a5).mono (fun e w' hE => hE.2 (fun hh => h ?_))
            rw [← hh]
            exact (rs3_enc f n _ (by omega) (by omega) (by rw [bitsOf_length]; omega)).2
          · exact rDecode_len s w hs f k1 e1 z1 n k2 e2 z12 (by omega) (by omega) (by omega) x3 k4 e3 (by omega) a5

theorem dec_cases (s : ByteArray) (hs : s.size ≤ 1099511627776) : DecBad s ∨ ∃ f n l, DecGood s f n l := by
  by_cases h : closeE (rs3 (strL s)).2 = 0
  · obtain ⟨f, n, B, hl, hf, hn, hB⟩ := close_enc (strL s) h
    have e1 : (rs1 (strL s)).1 = (f : Int) := by rw [hl, rs1_enc f n B hf]
    have e2 : (rs2 (strL s)).1 = (n : Int) := by rw [hl, rs2_enc f n B hf hn]
    have e3 : (rs3 (strL s)).1 = B := by rw [hl]; exact (rs3_enc f n B hf hn hB).1
    have p1 : pn (strL s) 9 = (f, (enc f).length, 0) := by
      rw [hl]; unfold encB; rw [List.append_assoc]; exact pn_small f (by omega) _
    have p2 : pn ((strL s).drop (enc f).length) 9 = (n, (enc n).length, 0) := by
      rw [hl, drop_encB1]; exact pn_small n (by omega) _
    have p3 : pn ((strL s).drop ((enc f).length + (enc n).length)) 9 = (B.length, (enc B.length).length, 0) := by
      rw [hl, drop_encB2]; exact pn_small B.length (by omega) _
    have hsz : s.size = (enc f).length + (enc n).length + (enc B.length).length + B.length := by
      rw [← strL_length, hl]; simp only [encB, List.length_append]; omega
    have dB : (strL s).drop ((enc f).length + (enc n).length + (enc B.length).length) = B := by rw [hl, drop_encB3]
    by_cases h0 : n = 0
    · exact .inl ⟨fun w _ => Decode_n0 s f n B w hs e1 e2 e3 h h0, fun w => rDecode_new s w hs f _ p1 (by omega) (by omega) n _ p2 (by omega) (.inr (.inl (by omega)))⟩
    · have h1 : 1 ≤ n := by omega
      by_cases hq : B.length = (n + 7) / 8
      · by_cases hz : ∀ i, n ≤ i → i < 8 * B.length → bitAt B i = 0
        · have hbk := bits_back n B hq hz
          refine .inr ⟨f, n, bitL B n, fun w h3 => Decode_good s f n B w hs h3 e1 e2 e3 h hf h1 hn hq hz, fun w => ?_, ?_⟩
          · have hE := rDecode_end s w hs f _ p1 (by omega) n _ p2 (by omega) hf h1 hn _ _ p3 (by omega) (by omega)
            rw [dB] at hE
            exact hE.mono (fun e w' hE => hE.1 (by rw [hbk, ← hl]))
          · rw [hbk, ← hl]
            exact strL_back s
        · obtain ⟨i, hi⟩ := Classical.not_forall.1 hz
          have hin : n ≤ i := Classical.byContradiction fun x => hi (fun y => absurd y x)
          have hib : i < 8 * B.length := Classical.byContradiction fun x => hi (fun _ y => absurd y x)
          have hb1 : bitAt B i = 1 := by
            have := bitAt_lt B i
            have : ¬ bitAt B i = 0 := fun x => hi (fun _ _ => x)
            omega
          refine .inl ⟨fun w h3 => Decode_bit s f n B w hs h3 e1 e2 e3 h hf h1 hn hq i hin (by omega) hb1, fun w => ?_⟩
          have hE := rDecode_end s w hs f _ p1 (by omega) n _ p2 (by omega) hf h1 hn _ _ p3 (by omega) (by omega)
          rw [dB] at hE
          refine hE.mono (fun e w' hE => hE.2 (fun hh => ?_))
          have hd := drop_encB3 f n B
          rw [← hl, ← hh] at hd
          have hd2 := drop_encB3 f n (bitsOf ((n + 7) / 8) (pickF (bitL B n) 1 2 n n))
          rw [bitsOf_length, ← hq] at hd2
          rw [← hq] at hd
          have : bitsOf B.length (pickF (bitL B n) 1 2 n n) = B := hd2.symm.trans hd
          have hz0 := bit_high n (bitL B n) i hin
          rw [← hq, this] at hz0
          omega
      · exact .inl ⟨fun w h3 => Decode_len s f n B w hs h3 e1 e2 e3 h hf h1 hn hq, fun w => rDecode_len s w hs f _ p1 (by omega) n _ p2 (by omega) hf h1 hn _ _ p3 (by omega) (by omega)⟩
  · exact .inl ⟨fun w _ => Decode_close s w hs h, fun w => rDecode_close s w hs h⟩

set_option maxRecDepth 100000 in
set_option maxHeartbeats 2000000 in
theorem BlocksDecodes_any (s : ByteArray) (w : World) (hs : s.size ≤ 9223372036854775807) (tc : TabC w) (h3 : 2 ≤ w.heap.size) :
    Calls Tryd.prog 10 #[.string s] w (TrueNew w) := by
  have HT := Lib.hid tc
  clear tc
  by_cases hl : 100 < s.size
  · go_enter Tryd.func10, Tryd.ntmps10
    go_wp2_with fail
    refine (known_any _ HT.out h3).mono ?_
    rintro e w1 ⟨rfl, hf1⟩
    have F1 := Lib.hid hf1
    have T1 := Lib.hid (HT.out.fr0 hf1)
    have h31 := Nat.le_trans h3 hf1.size
    clear hf1
    go_wp2_with fail
    refine (known_any _ T1.out h31).mono ?_
    rintro e w2 ⟨rfl, hf2⟩
    have F2 := Lib.hid (F1.out.trans hf2)
    clear hf2
    go_wp2
    go_ret
    exact ⟨rfl, F2.out⟩
  · have hd : decide (100 < s.size) = false := by simpa using hl
    have hD := dec_cases s (by omega)
    rcases hD with ⟨hP, hR⟩ | ⟨f, n, l, hP, hR, hE⟩
    · have HP := Lib.hid hP
      have HR := Lib.hid hR
      clear hP hR
      go_enter Tryd.func10, Tryd.ntmps10
      go_wp2_with fail
      refine (known_any _ HT.out h3).mono ?_
      rintro e w1 ⟨rfl, hf1⟩
      have F1 := Lib.hid hf1
      have h31 := Nat.le_trans h3 hf1.size
      clear hf1
      go_wp2_with fail
      refine (HP.out _ h31).mono ?_
      rintro e w2 ⟨rfl, hf2⟩
      have F2 := Lib.hid (F1.out.trans hf2)
      clear hf2
      go_wp2_with fail
      refine (HR.out _).mono ?_
      rintro e w3 ⟨rfl, hf3⟩
      have F3 := Lib.hid (F2.out.trans hf3)
      clear hf3 HP HR
      unfold zeroM
      go_wp2
      go_ret
      exact ⟨rfl, F3.out.alloc _⟩
    · have HP := Lib.hid hP
      have HR := Lib.hid hR
      have HE := Lib.hid hE
      clear hP hR hE
      go_enter Tryd.func10, Tryd.ntmps10
      go_wp2_with fail
      refine (known_any _ HT.out h3).mono ?_
      rintro e w1 ⟨rfl, hf1⟩
      have F1 := Lib.hid hf1
      have h31 := Nat.le_trans h3 hf1.size
      clear hf1
      go_wp2_with fail
      refine (HP.out _ h31).mono ?_
      rintro e w2 ⟨g, b, c, rfl, hm, hf2, _, _⟩
      have F2 := Lib.hid (F1.out.trans hf2)
      have M2 := Lib.hid hm
      clear hf2 hm
      go_wp2_with fail
      refine (HR.out _).mono ?_
      rintro e w3 ⟨b2, c2, rfl, hr, hf3⟩
      have hA : Fr Nothing w3 (w3.alloc (.cells #[.int .i64 f, .slice (some ⟨b2, 0, none⟩) n c2] 28)) := (Fr.refl _ _).alloc _
      have F3 := Lib.hid ((F2.out.trans hf3).trans hA)
      have M3 := Lib.hid ((M2.out.fr0 hf3).fr0 hA)
      have R3 := Lib.hid (hr.fr0 hA)
      have X3 := Lib.hid (Blk.new w3 28 #[.int .i64 f, .slice (some ⟨b2, 0, none⟩) n c2])
      obtain ⟨x0, x1, _, _⟩ := X3.out.two
      have CS := Lib.hid (Same_true g b c f n b2 c2 l _ M3.out R3.out)
      unfold mv at CS
      clear hf3 hr HP HR hA M2
      unfold mv
      go_wp2_with fail
      refine CS.out.mono ?_
      rintro e w4 ⟨rfl, hf4⟩
      have F4 := Lib.hid (F3.out.trans hf4)
      have CE := Lib.hid (Encode_any g b c f n l _ (M3.out.fr0 hf4))
      rw [HE.out] at CE
      clear CS hf4 M3 R3 X3 x0 x1
      go_wp2_with fail
      refine CE.out.mono ?_
      rintro e w5 ⟨rfl, hf5⟩
      have F5 := Lib.hid (F4.out.trans hf5)
      clear hf5 CE
      go_wp2
      go_ret
      exact ⟨rfl, F5.out⟩

theorem BlocksDecodes_int (s : ByteArray) (w : World) (hs : s.size ≤ 9223372036854775807) (tc : TabC w) :
    Calls Tryd.prog 10 #[.string s] w (TrueNew w) := BlocksDecodes_any s w hs tc (TabAt.size2 tc)
end Go.Proofs.YtejajafbopabmaaDoor
