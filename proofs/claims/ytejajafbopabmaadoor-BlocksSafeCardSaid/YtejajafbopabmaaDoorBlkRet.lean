/- The walk of BlocksReturns. -/
import Derived.Test.YtejajafbopabmaaDoorBlkY
import Derived.Test.YtejajafbopabmaaDoorBlkQ
namespace Go.Proofs.YtejajafbopabmaaDoor
open Go.RowKit

theorem Rd.lt {w : World} {S : Nat → Prop} {A : Option Addr} {n : Nat} {xs : List Value} (h : Rd w S 1 A n xs) : Rd w (fun k => S k ∧ k < w.heap.size) 1 A n xs :=
  ⟨h.1, fun hn => by
    obtain ⟨ad, e, hS, hc⟩ := h.2 hn
    have h0 : 0 < xs.length := by have := h.1; omega
    have := World.block_lt_of_cell? w _ (hc 0 _ (List.getElem?_eq_getElem h0))
    rw [block_of_add] at this
    exact ⟨ad, e, ⟨hS, this⟩, hc⟩⟩

set_option maxRecDepth 100000 in
set_option maxHeartbeats 4000000 in
theorem BlocksReturns_any (x y : Nat) (A : Option Addr) (len cap : Nat) (L : List OpV) (w : World) (S : Nat → Prop) (hx : x < 65536) (hy : y < 256) (hL : Rd w S 2 A len (ocells L)) (hok : ∀ o ∈ L, o.ok) (hlen : len ≤ 9223372036854775807) (tc : TabC w) (ta : TabA w) (h3 : 2 ≤ w.heap.size) :
    Calls Tryd.prog 3 #[.int .u16 x, .int .u8 y, .slice A len cap] w (TrueNew w) := by
  have HL := Lib.hid hL
  have HK := Lib.hid hok
  have HT := Lib.hid tc
  have HA := Lib.hid ta
  clear hL hok tc ta
  go_enter Tryd.func3, Tryd.ntmps3
  go_wp2_with fail
  refine (known_any _ HT.out h3).mono ?_
  rintro e w0 ⟨rfl, hf0⟩
  have F0 := Lib.hid hf0
  clear hf0
  go_wp2_with fail
  refine (play_any x y A len cap L _ S hx hy (HL.out.fr0 F0.out) HK.out hlen (HT.out.fr0 F0.out) (HA.out.fr0 F0.out) (Nat.le_trans h3 F0.out.size)).mono ?_
  rintro e w1 ⟨g, b, c, b2, c2, l, rfl, hP⟩
  generalize x % 1000 = f at *
  generalize 1 + y % 40 = n at *
  have M1 : Hid (Mine w (w1.alloc (.cells #[.int .i64 f, .slice (some ⟨b2, 0, none⟩) n c2] 28)) g b c f n l) :=
    Mine.fr0 ⟨hP.m.m, F0.out.trans hP.m.fr, Nat.le_trans F0.out.size hP.m.hg, Nat.le_trans F0.out.size hP.m.hb⟩ ((Fr.refl _ _).alloc _)
  clear hP HL HK F0
  unfold mv
  go_wp2_with fail
  refine (Old_row g b c f n l _ M1.out.m).mono ?_
  rintro e w2 ⟨A1, n1, k1, rfl, r1, hf2, hn1⟩
  have hbs : b < (w1.alloc (.cells #[.int .i64 f, .slice (some ⟨b2, 0, none⟩) n c2] 28)).heap.size := own_lt M1.out.m.own
  have R1 : Hid (Rd w2 (fun k => b < k) 1 A1 n1 ((blkK f l 1 3 n n).map (Value.int .i64))) := r1.mono (fun k hk => by omega)
  have M2 := Lib.hid (M1.out.fr0 hf2)
  clear r1 hf2 M1 hbs
  go_wp2_with fail
  refine (Used_row g b c f n l _ M2.out.m).mono ?_
  rintro e w3 ⟨A2, n2, k2, rfl, r2, hf3, hn2⟩
  have hbs : b < w2.heap.size := own_lt M2.out.m.own
  have R2 : Hid (Rd w3 (fun k => b < k) 1 A2 n2 ((blkK f l 1 2 n n).map (Value.int .i64))) := r2.mono (fun k hk => by omega)
  have R1' := Lib.hid (R1.out.fr0 hf3)
  have M3 := Lib.hid (M2.out.fr0 hf3)
  clear r2 hf3 M2 R1 hbs
  go_wp2_with fail
  refine (Clone_map g b c f n l _ M3.out.m).mono ?_
  rintro e w4 ⟨g', b', c', rfl, hm4, hf4, hg4, hb4⟩
  have M4 := Lib.hid (M3.out.fr0 hf4)
  have N4 : Hid (Mine w w4 g' b' c' f n l) := ⟨hm4, M3.out.fr.trans hf4, Nat.le_trans M3.out.fr.size hg4, Nat.le_trans M3.out.fr.size hb4⟩
  have Q1 : Hid (Rd w4 (fun k => b < k ∧ k < w3.heap.size) 1 A1 n1 ((blkK f l 1 3 n n).map (Value.int .i64))) := R1'.out.lt.fr0 hf4
  have Q2 : Hid (Rd w4 (fun k => b < k ∧ k < w3.heap.size) 1 A2 n2 ((blkK f l 1 2 n n).map (Value.int .i64))) := R2.out.lt.fr0 hf4
  have hbl : b < w3.heap.size := own_lt M3.out.m.own
  have HB4 : Hid (w3.heap.size ≤ b' ∧ w3.heap.size ≤ g' ∧ b < w3.heap.size ∧ g < w3.heap.size) := ⟨hb4, hg4, hbl, M3.out.m.blk.lt⟩
  clear hm4 hf4 hg4 hb4 R1' R2 M3 hbl
  go_wp2_with fail
  refine (Abort_any g b c f n l _ M4.out.m (HA.out.fr0 M4.out.fr)).mono ?_
  rintro e w5 ⟨rfl, hf5, hm5⟩
  have M5 := Lib.hid (M4.out.step hf5 hm5)
  have N5 : Hid (Mine w w5 g' b' c' f n l) := ⟨N4.out.m.fr hf5 (fun e => by have e' : g' = b := e; have := HB4.out; omega) (fun e => by have e' : b' = b := e; have := HB4.out; omega), M5.out.fr, N4.out.hg, N4.out.hb⟩
  have Q1b := Lib.hid (Q1.out.fr hf5 (fun k hk e => by have e' : k = b := e; omega))
  have Q2b := Lib.hid (Q2.out.fr hf5 (fun k hk e => by have e' : k = b := e; omega))
  clear hf5 hm5 Q1 Q2
  go_wp2_with fail
  refine (Commit_any g' b' c' f n l _ N5.out.m (HT.out.fr0 N5.out.fr)).mono ?_
  rintro e w6 ⟨rfl, hf6, hm6⟩
  have N6 := Lib.hid (N5.out.step hf6 hm6)
  have M6 : Hid (Mine w w6 g b c f n (l.map tabA)) := ⟨M5.out.m.fr hf6 (fun e => by have e' : g = b' := e; have := HB4.out; omega) (fun e => by have e' : b = b' := e; have := HB4.out; omega), N6.out.fr, M5.out.hg, M5.out.hb⟩
  have Q1c := Lib.hid (Q1b.out.fr hf6 (fun k hk e => by have e' : k = b' := e; have := HB4.out; omega))
  have Q2c := Lib.hid (Q2b.out.fr hf6 (fun k hk e => by have e' : k = b' := e; have := HB4.out; omega))
  have h4 : Hid (ok4 l) := M4.out.m.o4
  have hl : Hid (l.length = n) := M4.out.m.len
  have E1 : Hid (blkK f (l.map tabA) 1 2 n n = blkK f l 1 3 n n) := blkK_congr (fun k hk => tabA_12 h4.out (by rw [hl.out]; exact hk))
  have E2 : Hid (blkK f (l.map tabA) 1 3 n n = blkK f l 1 3 n n) := blkK_congr (fun k hk => tabA_13 h4.out (by rw [hl.out]; exact hk))
  have E3 : Hid (blkK f (l.map tabC) 1 2 n n = blkK f l 1 2 n n) := blkK_congr (fun k hk => tabC_12 h4.out (by rw [hl.out]; exact hk))
  have E4 : Hid (blkK f (l.map tabC) 1 3 n n = blkK f l 1 2 n n) := blkK_congr (fun k hk => tabC_13 h4.out (by rw [hl.out]; exact hk))
  have C1 := Lib.hid (fun w' (hb : BM w' g b c f n (l.map tabA)) => Used_row g b c f n (l.map tabA) w' hb)
  have C2 := Lib.hid (fun w' (hb : BM w' g b c f n (l.map tabA)) => Old_row g b c f n (l.map tabA) w' hb)
  have C3 := Lib.hid (fun w' (hb : BM w' g' b' c' f n (l.map tabC)) => Used_row g' b' c' f n (l.map tabC) w' hb)
  have C4 := Lib.hid (fun w' (hb : BM w' g' b' c' f n (l.map tabC)) => Old_row g' b' c' f n (l.map tabC) w' hb)
  rw [E1.out] at C1
  rw [E2.out] at C2
  rw [E3.out] at C3
  rw [E4.out] at C4
  clear hf6 hm6 Q1b Q2b M5 N5 M4 N4 E1 E2 E3 E4 hl
  go_wp2_with fail
  refine (C1.out _ M6.out.m).mono ?_
  rintro e w7 ⟨A3, n3, k3, rfl, r3, hf7, hn3⟩
  have F7 := Lib.hid hf7
  have R3 := Lib.hid r3
  clear r3 hf7
  go_wp2_with fail
  refine (rSame_eq _ _ _ _ _ _ _ _ _ _ R3.out (Q1c.out.fr0 F7.out) hn3 hn1).mono ?_
  rintro e w8 ⟨rfl, hf8⟩
  have F8 := Lib.hid (F7.out.trans hf8)
  clear hf8 R3 F7
  go_wp2_with fail
  refine (C2.out _ (M6.out.fr0 F8.out).m).mono ?_
  rintro e w9 ⟨A4, n4, k4, rfl, r4, hf9, hn4⟩
  have F9 := Lib.hid (F8.out.trans hf9)
  have R4 := Lib.hid r4
  clear r4 hf9 F8
  go_wp2_with fail
  refine (rSame_eq _ _ _ _ _ _ _ _ _ _ R4.out (Q1c.out.fr0 F9.out) hn4 hn1).mono ?_
  rintro e w10 ⟨rfl, hf10⟩
  have F10 := Lib.hid (F9.out.trans hf10)
  clear hf10 R4 F9
  go_wp2_with fail
  refine (C3.out _ (N6.out.fr0 F10.out).m).mono ?_
  rintro e w11 ⟨A5, n5, k5, rfl, r5, hf11, hn5⟩
  have F11 := Lib.hid (F10.out.trans hf11)
  have R5 := Lib.hid r5
  clear r5 hf11 F10
  go_wp2_with fail
  refine (rSame_eq _ _ _ _ _ _ _ _ _ _ R5.out (Q2c.out.fr0 F11.out) hn5 hn2).mono ?_
  rintro e w12 ⟨rfl, hf12⟩
  have F12 := Lib.hid (F11.out.trans hf12)
  clear hf12 R5 F11
  go_wp2_with fail
  refine (C4.out _ (N6.out.fr0 F12.out).m).mono ?_
  rintro e w13 ⟨A6, n6, k6, rfl, r6, hf13, hn6⟩
  have F13 := Lib.hid (F12.out.trans hf13)
  have R6 := Lib.hid r6
  clear r6 hf13 F12
  go_wp2_with fail
  refine (rSame_eq _ _ _ _ _ _ _ _ _ _ R6.out (Q2c.out.fr0 F13.out) hn6 hn2).mono ?_
  rintro e w14 ⟨rfl, hf14⟩
  have F14 := Lib.hid (F13.out.trans hf14)
  clear hf14 R6 F13
  have D1 := Lib.hid (Number_any g b c f n (l.map tabA) 2 _ (M6.out.fr0 F14.out).m)
  rw [numA2 h4.out] at D1
  go_wp2_with fail
  refine D1.out.mono ?_
  rintro e w15 ⟨rfl, hf15⟩
  have F15 := Lib.hid (F14.out.trans hf15)
  clear hf15 D1 F14
  have D2 := Lib.hid (Number_any g b c f n (l.map tabA) 3 _ (M6.out.fr0 F15.out).m)
  rw [numA3 h4.out] at D2
  go_wp2_with fail
  refine D2.out.mono ?_
  rintro e w16 ⟨rfl, hf16⟩
  have F16 := Lib.hid (F15.out.trans hf16)
  clear hf16 D2 F15
  have D3 := Lib.hid (Number_any g' b' c' f n (l.map tabC) 2 _ (N6.out.fr0 F16.out).m)
  rw [numC2 h4.out] at D3
  go_wp2_with fail
  refine D3.out.mono ?_
  rintro e w17 ⟨rfl, hf17⟩
  have F17 := Lib.hid (F16.out.trans hf17)
  clear hf17 D3 F16
  have D4 := Lib.hid (Number_any g' b' c' f n (l.map tabC) 3 _ (N6.out.fr0 F17.out).m)
  rw [numC3 h4.out] at D4
  go_wp2_with fail
  refine D4.out.mono ?_
  rintro e w18 ⟨rfl, hf18⟩
  have F18 := Lib.hid (M6.out.fr.trans (F17.out.trans hf18))
  clear hf18 D4 F17
  go_wp2
  go_ret
  exact ⟨rfl, F18.out⟩

theorem BlocksReturns_int (x y : Int) (A : Option Addr) (len cap : Nat) (L : List OpV) (w : World) (S : Nat → Prop) (hx : 0 ≤ x ∧ x < 65536) (hy : 0 ≤ y ∧ y < 256) (hL : Rd w S 2 A len (ocells L)) (hok : ∀ o ∈ L, o.ok) (hlen : len ≤ 9223372036854775807) (tc : TabC w) (ta : TabA w) :
    Calls Tryd.prog 3 #[.int .u16 x, .int .u8 y, .slice A len cap] w (TrueNew w) := by
  obtain ⟨a, rfl⟩ := Int.eq_ofNat_of_zero_le hx.1
  obtain ⟨b, rfl⟩ := Int.eq_ofNat_of_zero_le hy.1
  exact BlocksReturns_any a b A len cap L w S (by omega) (by omega) hL hok hlen tc ta (TabAt.size2 tc)
end Go.Proofs.YtejajafbopabmaaDoor
