/- The law's known. -/
import Derived.Test.YtejajafbopabmaaDoorBlkV
namespace Go.Proofs.YtejajafbopabmaaDoor
open Go.RowKit

/-- A new row of ints. -/
def SomeRow (w : World) (l : List Int) (e : Ending) (w' : World) : Prop := ∃ A n c, e = .returned (.slice A n c) ∧ Rd w' (fun k => w.heap.size ≤ k) 1 A n (l.map (Value.int .i64)) ∧ Fr Nothing w w' ∧ n ≤ 65536

theorem SomeGrewI.row {w w' : World} {l : List Int} {e : Ending} (h : SomeGrewI w l e w') (hl : l.length ≤ 65536) : SomeRow w l e w' := by
  obtain ⟨v, rfl, hg⟩ := h
  obtain ⟨A, n, c, rfl, H, _⟩ := own_slice hg.own
  have e := H.out
  subst e
  exact ⟨A, _, c, rfl, (Rd.of_own hg.own).mono (fun k hk => hg.new k hk), hg.fr0, hl⟩

theorem rSame_eq (A B : Option Addr) (n c m d : Nat) (zs : List Int) (w : World) (S S' : Nat → Prop) (hz : Rd w S 1 A n (zs.map (Value.int .i64))) (hy : Rd w S' 1 B m (zs.map (Value.int .i64))) (hn : n ≤ 65536) (hm : m ≤ 65536) :
    Calls Tryd.prog 19 #[.slice A n c, .slice B m d] w (Gives w (.bool true)) := by
  have := rSame_any A B n c m d zs zs w S S' hz hy (by omega) (by omega)
  simpa using this

theorem Used_row (g b c f n : Nat) (l : List UInt8) (w : World) (h : BM w g b c f n l) :
    Calls Tryd.prog 15 #[.pointer (some ⟨g, 0, none⟩)] w (SomeRow w (blkK f l 1 2 n n)) := by
  have e := h.len
  subst e
  exact (Used_any g b c f _ l w h).mono fun e w' hs => hs.row (Nat.le_trans (blkK_length f l 1 2 l.length l.length) h.hn)
theorem Old_row (g b c f n : Nat) (l : List UInt8) (w : World) (h : BM w g b c f n l) :
    Calls Tryd.prog 14 #[.pointer (some ⟨g, 0, none⟩)] w (SomeRow w (blkK f l 1 3 n n)) := by
  have e := h.len
  subst e
  exact (Old_any g b c f _ l w h).mono fun e w' hs => hs.row (Nat.le_trans (blkK_length f l 1 3 l.length l.length) h.hn)
theorem rList_row12 (f b c n : Nat) (l : List UInt8) (w : World) (h : RM w b c n l) (hf : f ≤ 1073741824) :
    Calls Tryd.prog 45 #[.agg #[.int .i64 f, .slice (some ⟨b, 0, none⟩) n c], .int .i64 1, .int .i64 2] w (SomeRow w (blkK f l 1 2 n n)) :=
  (rList_any f b c n l 1 2 w h hf).mono fun _ _ hs => hs.row (Nat.le_trans (blkK_length f l 1 2 n n) h.hn)
theorem rList_row13 (f b c n : Nat) (l : List UInt8) (w : World) (h : RM w b c n l) (hf : f ≤ 1073741824) :
    Calls Tryd.prog 45 #[.agg #[.int .i64 f, .slice (some ⟨b, 0, none⟩) n c], .int .i64 1, .int .i64 3] w (SomeRow w (blkK f l 1 3 n n)) :=
  (rList_any f b c n l 1 3 w h hf).mono fun _ _ hs => hs.row (Nat.le_trans (blkK_length f l 1 3 n n) h.hn)

theorem Fr.own1 {w0 w w' : World} {b : Nat} (h : Fr Nothing w0 w) (hf : Fr (One b) w w') (hb : w0.heap.size ≤ b) : Fr Nothing w0 w' :=
  h.then_ hf (fun i hi e => by have e' : i = b := e; omega)
theorem TabAt.one {G b : Nat} {t : UInt8 → UInt8} {w w' : World} (h : TabAt G t w) (hf : Fr (One b) w w') (hb : 2 ≤ b) (hG : G < 2) : TabAt G t w' :=
  h.fr hf (fun e => by have e' : G = b := e; omega)
theorem TabAt.fr0 {G : Nat} {t : UInt8 → UInt8} {w w' : World} (h : TabAt G t w) (hf : Fr Nothing w w') : TabAt G t w' := h.fr hf (fun x => x)

/-- A map of the call's own: what a walk carries along. -/
structure Mine (w0 w : World) (g b c f n : Nat) (l : List UInt8) : Prop where
  m : BM w g b c f n l
  fr : Fr Nothing w0 w
  hg : w0.heap.size ≤ g
  hb : w0.heap.size ≤ b
theorem Mine.step {w0 w w' : World} {g b c f n : Nat} {l l' : List UInt8} (h : Mine w0 w g b c f n l) (hf : Fr (One b) w w') (hm : BM w' g b c f n l') : Mine w0 w' g b c f n l' :=
  ⟨hm, h.fr.own1 hf h.hb, h.hg, h.hb⟩
theorem Mine.fr0 {w0 w w' : World} {g b c f n : Nat} {l : List UInt8} (h : Mine w0 w g b c f n l) (hf : Fr Nothing w w') : Mine w0 w' g b c f n l :=
  ⟨h.m.fr0 hf, h.fr.trans hf, h.hg, h.hb⟩

theorem rd_two (w : World) (x y : Int) : Rd (w.alloc (.cells #[.int .i64 x, .int .i64 y] 3)) (fun k => k = w.heap.size) 1 (some ⟨w.heap.size, 0, none⟩) 2 (([x, y] : List Int).map (Value.int .i64)) := rd_new w #[.int .i64 x, .int .i64 y] 3 1 2 rfl

set_option maxRecDepth 100000 in
set_option maxHeartbeats 4000000 in
theorem known_any (w : World) (ht : TabC w) (h3 : 2 ≤ w.heap.size) : Calls Tryd.prog 12 #[] w (TrueNew w) := by
  have HT := Lib.hid ht
  clear ht
  go_enter Tryd.func12, Tryd.ntmps12
  go_wp2_with fail
  refine (New_ok 10 3 _ (by omega) (by omega) (by omega) h3).mono ?_
  rintro e w1 ⟨g, b, c, rfl, hm, hf, hg, hb⟩
  have M1 : Hid (Mine w w1 g b c 10 3 [0, 0, 0]) := ⟨hm, hf, hg, hb⟩
  have T1 := Lib.hid (HT.out.fr0 hf)
  clear hm hf hg hb HT h3
  go_wp2_with fail
  refine (Take_any g b c 10 3 [0, 0, 0] _ M1.out.m).mono ?_
  rintro e w2 ⟨rfl, hf2, hm2⟩
  rw [show takeB 10 [0, 0, 0] = 10 from rfl, show takeE [0, 0, 0] = 0 from rfl]
  have M2 : Hid (Mine w w2 g b c 10 3 [2, 0, 0]) := M1.out.step hf2 hm2
  have T2 := Lib.hid (T1.out.one hf2 M1.out.m.far (by decide))
  clear hf2 hm2 M1 T1
  go_wp2_with fail
  refine (Take_any g b c 10 3 [2, 0, 0] _ M2.out.m).mono ?_
  rintro e w3 ⟨rfl, hf3, hm3⟩
  rw [show takeB 10 [2, 0, 0] = 11 from rfl, show takeE [2, 0, 0] = 0 from rfl]
  have M3 : Hid (Mine w w3 g b c 10 3 [2, 2, 0]) := M2.out.step hf3 hm3
  have T3 := Lib.hid (T2.out.one hf3 M2.out.m.far (by decide))
  clear hf3 hm3 M2 T2
  go_wp2_with fail
  refine (Commit_any g b c 10 3 [2, 2, 0] _ M3.out.m T3.out).mono ?_
  rintro e w4 ⟨rfl, hf4, hm4⟩
  have M4 : Hid (Mine w w4 g b c 10 3 [1, 1, 0]) := M3.out.step hf4 hm4
  have T4 := Lib.hid (T3.out.one hf4 M3.out.m.far (by decide))
  clear hf4 hm4 M3 T3
  go_wp2_with fail
  refine (Give_any g b c 10 3 [1, 1, 0] _ _ M4.out.m).mono ?_
  rintro e w5 ⟨rfl, hf5, hm5⟩
  rw [show giveE 10 [1, 1, 0] 10 = 0 from rfl]
  have M5 : Hid (Mine w w5 g b c 10 3 [3, 1, 0]) := M4.out.step hf5 hm5
  have T5 := Lib.hid (T4.out.one hf5 M4.out.m.far (by decide))
  clear hf5 hm5 M4 T4
  go_wp2_with fail
  refine (Take_any g b c 10 3 [3, 1, 0] _ M5.out.m).mono ?_
  rintro e w6 ⟨rfl, hf6, hm6⟩
  rw [show takeB 10 [3, 1, 0] = 12 from rfl, show takeE [3, 1, 0] = 0 from rfl]
  have M6 : Hid (Mine w w6 g b c 10 3 [3, 1, 2]) := M5.out.step hf6 hm6
  have T6 := Lib.hid (T5.out.one hf6 M5.out.m.far (by decide))
  clear hf6 hm6 M5 T5
  go_wp2_with fail
  refine (Used_row g b c 10 3 [3, 1, 2] _ M6.out.m).mono ?_
  rintro e w7 ⟨A1, n1, c1, rfl, r1, hf7, hn1⟩
  have M7 := Lib.hid (M6.out.fr0 hf7)
  have T7 := Lib.hid (T6.out.fr0 hf7)
  have R1 := Lib.hid r1
  clear hf7 M6 T6 r1
  go_wp2_with fail
  refine (rSame_eq _ _ _ _ _ _ [11, 12] _ _ _ (R1.out.fr0 ((Fr.refl _ _).alloc _)) (rd_two w7 11 12) hn1 (by omega)).mono ?_
  rintro e w8 ⟨rfl, hf8⟩
  have M8 := Lib.hid (M7.out.fr0 (((Fr.refl _ _).alloc _).trans hf8))
  have T8 := Lib.hid (T7.out.fr0 (((Fr.refl _ _).alloc _).trans hf8))
  clear hf8 M7 T7 R1 hn1
  go_wp2_with fail
  refine (Old_row g b c 10 3 [3, 1, 2] _ M8.out.m).mono ?_
  rintro e w9 ⟨A2, n2, c2, rfl, r2, hf9, hn2⟩
  have M9 := Lib.hid (M8.out.fr0 hf9)
  have T9 := Lib.hid (T8.out.fr0 hf9)
  have R2 := Lib.hid r2
  clear hf9 M8 T8 r2
  go_wp2_with fail
  refine (rSame_eq _ _ _ _ _ _ [10, 11] _ _ _ (R2.out.fr0 ((Fr.refl _ _).alloc _)) (rd_two w9 10 11) hn2 (by omega)).mono ?_
  rintro e w10 ⟨rfl, hf10⟩
  have M10 := Lib.hid (M9.out.fr0 (((Fr.refl _ _).alloc _).trans hf10))
  have T10 := Lib.hid (T9.out.fr0 (((Fr.refl _ _).alloc _).trans hf10))
  clear hf10 M9 T9 R2 hn2
  go_wp2_with fail
  refine (Encode_any g b c 10 3 [3, 1, 2] _ M10.out.m).mono ?_
  rintro e w11 ⟨rfl, hf11⟩
  rw [show encB 10 3 (bitsOf ((3 + 7) / 8) (pickF [3, 1, 2] 1 2 3 3)) = [10, 3, 1, 6] by decide +kernel]
  have M11 := Lib.hid (M10.out.fr0 hf11)
  have T11 := Lib.hid (T10.out.fr0 hf11)
  clear hf11 M10 T10
  go_wp2_with fail
  refine (Take_any g b c 10 3 [3, 1, 2] _ M11.out.m).mono ?_
  rintro e w12 ⟨rfl, hf12, hm12⟩
  rw [show takeB 10 [3, 1, 2] = 0 from rfl, show takeE [3, 1, 2] = 26 from rfl]
  have M12 : Hid (Mine w w12 g b c 10 3 [3, 1, 2]) := M11.out.step hf12 hm12
  have T12 := Lib.hid (T11.out.one hf12 M11.out.m.far (by decide))
  clear hf12 hm12 M11 T11
  go_wp2_with fail
  refine (Commit_any g b c 10 3 [3, 1, 2] _ M12.out.m T12.out).mono ?_
  rintro e w13 ⟨rfl, hf13, hm13⟩
  have M13 : Hid (Mine w w13 g b c 10 3 [0, 1, 1]) := M12.out.step hf13 hm13
  clear hf13 hm13 M12 T12
  go_wp2_with fail
  refine (Take_any g b c 10 3 [0, 1, 1] _ M13.out.m).mono ?_
  rintro e w14 ⟨rfl, hf14, hm14⟩
  rw [show takeB 10 [0, 1, 1] = 10 from rfl, show takeE [0, 1, 1] = 0 from rfl]
  have F14 := Lib.hid (M13.out.fr.own1 hf14 M13.out.hb)
  clear hf14 hm14 M13
  go_wp2
  go_ret
  exact ⟨rfl, F14.out⟩
end Go.Proofs.YtejajafbopabmaaDoor
