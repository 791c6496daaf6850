/- The walk of BlocksEncodes. -/
import Derived.Test.YtejajafbopabmaaDoorBlkY
import Derived.Test.YtejajafbopabmaaDoorBlkW
import Derived.Test.YtejajafbopabmaaDoorBlkH
namespace Go.Proofs.YtejajafbopabmaaDoor
open Go.RowKit

set_option maxRecDepth 100000 in
set_option maxHeartbeats 2000000 in
theorem BlocksEncodes_any (x y : Nat) (A : Option Addr) (len cap : Nat) (L : List OpV) (w : World) (S : Nat → Prop) (hx : x < 65536) (hy : y < 256) (hL : Rd w S 2 A len (ocells L)) (hok : ∀ o ∈ L, o.ok) (hlen : len ≤ 9223372036854775807) (tc : TabC w) (ta : TabA w) (h3 : 2 ≤ w.heap.size) :
    Calls Tryd.prog 11 #[.int .u16 x, .int .u8 y, .slice A len cap] w (TrueNew w) := by
  have HL := Lib.hid hL
  have HK := Lib.hid hok
  have HT := Lib.hid tc
  have HA := Lib.hid ta
  clear hL hok tc ta
  go_enter Tryd.func11, Tryd.ntmps11
  go_wp2_with fail
  refine (known_any _ HT.out h3).mono ?_
  rintro e w1 ⟨rfl, hf1⟩
  have F1 := Lib.hid hf1
  clear hf1
  go_wp2_with fail
  refine (play_any x y A len cap L _ S hx hy (HL.out.fr0 F1.out) HK.out hlen (HT.out.fr0 F1.out) (HA.out.fr0 F1.out) (Nat.le_trans h3 F1.out.size)).mono ?_
  rintro e w2 ⟨g, b, c, b2, c2, l, rfl, hP⟩
  generalize x % 1000 = f at *
  generalize 1 + y % 40 = n at *
  have P2 : Hid (Both w (w2.alloc (.cells #[.int .i64 f, .slice (some ⟨b2, 0, none⟩) n c2] 28)) g b c f n b2 c2 l) :=
    Both.fr0 ⟨⟨hP.m.m, F1.out.trans hP.m.fr, Nat.le_trans F1.out.size hP.m.hg, Nat.le_trans F1.out.size hP.m.hb⟩, hP.r⟩ ((Fr.refl _ _).alloc _)
  have X2 := Lib.hid (Blk.new w2 28 #[.int .i64 f, .slice (some ⟨b2, 0, none⟩) n c2])
  have HS : Hid (f ≤ 1073741824 ∧ 1 ≤ n ∧ n ≤ 65536 ∧ l.length = n ∧ ok4 l) := ⟨hP.m.m.hf, hP.m.m.h1, hP.m.m.hn, hP.m.m.len, hP.m.m.o4⟩
  clear hP F1
  unfold mv
  have CE := Lib.hid (Encode_any g b c f n l _ P2.out.m.m)
  go_wp2_with fail
  refine CE.out.mono ?_
  rintro e w3 ⟨rfl, hf3⟩
  have P3 := Lib.hid (P2.out.fr0 hf3)
  have X3 := Lib.hid (X2.out.fr hf3 (fun x => x))
  have CD := Lib.hid (Decode_enc f n l w3 (Nat.le_trans h3 P3.out.m.fr.size) HS.out.1 HS.out.2.1 HS.out.2.2.1 HS.out.2.2.2.1 HS.out.2.2.2.2)
  have CR := Lib.hid (fun w' (h : RM w' b2 c2 n l) => rEncode_any f b2 c2 n l w' h HS.out.1)
  have CX := Lib.hid (fun w' g' b' c' (h : BM w' g' b' c' f n (l.map tabC)) => Encode_any g' b' c' f n (l.map tabC) w' h)
  rw [pickF_tabC n l HS.out.2.2.2.1 HS.out.2.2.2.2] at CX
  generalize (⟨(encB f n (bitsOf ((n + 7) / 8) (pickF l 1 2 n n))).toArray⟩ : ByteArray) = E at *
  clear hf3 CE P2 X2
  go_wp2_with fail
  refine CD.out.mono ?_
  rintro e w4 ⟨g', b', c', rfl, hm4, hf4, hg4, hb4⟩
  have P4 := Lib.hid (P3.out.fr0 hf4)
  have X4 := Lib.hid (X3.out.fr hf4 (fun x => x))
  have M4 := Lib.hid hm4
  obtain ⟨x0, x1, _, _⟩ := X4.out.two
  clear CD hm4 hf4 hg4 hb4 P3 X3
  generalize w2.heap.size = X at *
  have CR4 := Lib.hid (CR.out _ P4.out.r)
  unfold mv at CR4
  go_wp2_with fail
  refine CR4.out.mono ?_
  rintro e w5 ⟨rfl, hf5⟩
  have P5 := Lib.hid (P4.out.fr0 hf5)
  have X5 := Lib.hid (X4.out.fr hf5 (fun x => x))
  have M5 := Lib.hid (M4.out.fr0 hf5)
  obtain ⟨y0, y1, _, _⟩ := X5.out.two
  have CC := Lib.hid (rCommit_any f b2 c2 n l _ P5.out.r)
  unfold mv at CC
  clear hf5 P4 X4 M4 CR CR4 x0 x1
  go_wp2_with fail
  refine CC.out.mono ?_
  rintro e w6 ⟨b6, c6, rfl, hr6, hf6⟩
  have P6 := Lib.hid (P5.out.fr0 hf6)
  have X6 := Lib.hid (X5.out.fr hf6 (fun x => x))
  have M6 := Lib.hid (M5.out.fr0 hf6)
  have CS := Lib.hid (Same_true g' b' c' f n b6 c6 (l.map tabC) _ M6.out hr6)
  unfold mv at CS
  clear hr6 hf6 CC P5 X5 M5 y0 y1
  unfold mv
  go_wp2_with fail
  refine CS.out.mono ?_
  rintro e w7 ⟨rfl, hf7⟩
  have P7 := Lib.hid (P6.out.fr0 hf7)
  have X7 := Lib.hid (X6.out.fr hf7 (fun x => x))
  have M7 := Lib.hid (M6.out.fr0 hf7)
  clear hf7 CS P6 X6 M6
  go_wp2_with fail
  refine (CX.out _ _ _ _ M7.out).mono ?_
  rintro e w8 ⟨rfl, hf8⟩
  have P8 := Lib.hid (P7.out.fr0 hf8)
  have X8 := Lib.hid (X7.out.fr hf8 (fun x => x))
  obtain ⟨z0, z1, _, _⟩ := X8.out.two
  have CS := Lib.hid (Same_true g b c f n b2 c2 l _ P8.out.m.m P8.out.r)
  unfold mv at CS
  clear hf8 CX P7 X7 M7
  go_wp2_with fail
  refine CS.out.mono ?_
  rintro e w9 ⟨rfl, hf9⟩
  have F9 := Lib.hid (P8.out.m.fr.trans hf9)
  clear hf9 CS P8 X8 z0 z1
  go_wp2
  go_ret
  exact ⟨rfl, F9.out⟩

theorem BlocksEncodes_int (x y : Int) (A : Option Addr) (len cap : Nat) (L : List OpV) (w : World) (S : Nat → Prop) (hx : 0 ≤ x ∧ x < 65536) (hy : 0 ≤ y ∧ y < 256) (hL : Rd w S 2 A len (ocells L)) (hok : ∀ o ∈ L, o.ok) (hlen : len ≤ 9223372036854775807) (tc : TabC w) (ta : TabA w) :
    Calls Tryd.prog 11 #[.int .u16 x, .int .u8 y, .slice A len cap] w (TrueNew w) := by
  obtain ⟨a, rfl⟩ := Int.eq_ofNat_of_zero_le hx.1
  obtain ⟨b, rfl⟩ := Int.eq_ofNat_of_zero_le hy.1
  exact BlocksEncodes_any a b A len cap L w S (by omega) (by omega) hL hok hlen tc ta (TabAt.size2 tc)
end Go.Proofs.YtejajafbopabmaaDoor
