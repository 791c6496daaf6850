/- The walk of BlocksPlays. -/
import Derived.Test.YtejajafbopabmaaDoorBlkY
import Derived.Test.YtejajafbopabmaaDoorBlkW
namespace Go.Proofs.YtejajafbopabmaaDoor
open Go.RowKit

set_option maxRecDepth 100000 in
set_option maxHeartbeats 4000000 in
theorem BlocksPlays_any (x y : Nat) (A : Option Addr) (len cap : Nat) (L : List OpV) (w : World) (S : Nat → Prop) (hx : x < 65536) (hy : y < 256) (hL : Rd w S 2 A len (ocells L)) (hok : ∀ o ∈ L, o.ok) (_ : len ≤ 9223372036854775807) (tc : TabC w) (ta : TabA w) (h3 : 2 ≤ w.heap.size) :
    Calls Tryd.prog 4 #[.int .u16 x, .int .u8 y, .slice A len cap] w (TrueNew w) := by
  have HL := Lib.hid hL
  have HK := Lib.hid hok
  have HT := Lib.hid tc
  have HA := Lib.hid ta
  have HN : Hid (L.length = len) := by have := hL.1; rw [ocells_length] at this; simp only [Hid]; omega
  clear hL hok tc ta
  go_enter Tryd.func4, Tryd.ntmps4
  go_wp2_with fail
  refine (known_any _ HT.out h3).mono ?_
  rintro e w0 ⟨rfl, hf0⟩
  have F0 := Lib.hid hf0
  clear hf0
  go_wp2_with fail
  refine (begin_any x y _ hx hy (Nat.le_trans h3 F0.out.size)).mono ?_
  rintro e w1 ⟨g, b, c, b2, c2, rfl, hm, hr⟩
  have hfn : x % 1000 ≤ 1000 := by omega
  have hnn : 1 + y % 40 ≤ 40 := by omega
  generalize x % 1000 = f at *
  generalize 1 + y % 40 = n at *
  have hm' : Mine w w1 g b c f n (List.replicate n 0) := ⟨hm.m, F0.out.trans hm.fr, Nat.le_trans F0.out.size hm.hg, Nat.le_trans F0.out.size hm.hb⟩
  have X1 := Lib.hid (Blk.new w1 28 #[.int .i64 f, .slice (some ⟨b2, 0, none⟩) n c2])
  have P1 : Hid (Both w (w1.alloc (.cells #[.int .i64 f, .slice (some ⟨b2, 0, none⟩) n c2] 28)) g b c f n b2 c2 (List.replicate n 0)) := Both.fr0 ⟨hm', hr⟩ ((Fr.refl _ _).alloc _)
  have HX0 : Hid (w.heap.size ≤ w1.heap.size) := hm'.fr.size
  have HC := Lib.hid (Same_true g b c f n b2 c2 (List.replicate n 0) _ P1.out.m.m P1.out.r)
  unfold mv at HC
  clear hm hr hm' F0
  unfold mv
  go_wp2_with fail
  refine HC.out.mono ?_
  rintro e w2 ⟨rfl, hf2⟩
  have X2 := Lib.hid (X1.out.fr hf2 (fun x => x))
  have P2 := Lib.hid (P1.out.fr0 hf2)
  clear hf2 HC X1 P1
  generalize w1.heap.size = X at *
  go_wp2
  go_loopw [9] (fun i wr => ∃ k : Nat, k ≤ len ∧ i = .int .i64 k ∧ Hid (∃ l b2 c2, Both w wr g b c f n b2 c2 l ∧ Blk wr X 28 #[.int .i64 f, .slice (some ⟨b2, 0, none⟩) n c2])) (fun i _ => len - (intOf i).toNat)
  case atStart => exact ⟨0, Nat.zero_le _, rfl, _, b2, c2, P2.out, X2.out⟩
  case round =>
    obtain ⟨k, hk, rfl, HE⟩ := hrel
    obtain ⟨l, b3, c3, hP, hX⟩ := HE.out
    have KP := Lib.hid hP
    have KX := Lib.hid hX
    clear hP hX HE X2 P2
    by_cases hgo : k < len ∧ k < 60
    · obtain ⟨hlt, h60⟩ := hgo
      obtain ⟨o, ho⟩ : ∃ o, L[k]? = some o := ⟨_, List.getElem?_eq_getElem (by rw [HN.out]; exact hlt)⟩
      obtain ⟨ad, rfl, _, q0, q1⟩ := (HL.out.fr0 KP.out.m.fr.drew).opAt ho
      have hoo := HK.out o (List.mem_of_getElem? ho)
      have hc1 : Fr Nothing wr wr.drew := (Fr.refl _ _).drew
      have hc2 : Fr Nothing wr (wr.alloc (.cells #[.int .i64 0, .slice none 0 0] 28)).drew := ((Fr.refl _ _).alloc _).drew
      obtain ⟨x0, x1, _, _⟩ := (KX.out.fr hc1 (fun x => x)).two
      obtain ⟨x2, x3, _, _⟩ := (KX.out.fr hc2 (fun x => x)).two
      obtain ⟨ad', e', _, q2, q3⟩ := (HL.out.fr0 (KP.out.m.fr.trans hc2)).opAt ho
      obtain rfl : ad = ad' := by injection e'
      have BB := Lib.hid ((Blk.new wr 28 #[.int .i64 0, .slice none 0 0]).drew)
      have nb : ∀ (R : Nat) (cs : Array Value) (w' : World), Fr Nothing wr w' → Blk w' R 28 cs → ¬ One b R := fun R cs w' hf hB e => by
        have e' : _ = b := e
        have := own_blk_ne (KP.out.m.m.fr0 hf).own hB (by decide)
        simp [Value.ownBlock, e'] at this
      have HC : Hid (∀ w', Fr Nothing wr w' → Calls Tryd.prog 23 #[.pointer (some ⟨g, 0, none⟩), .agg #[.int .i64 f, .slice (some ⟨b3, 0, none⟩) n c3], .agg #[.int .u8 o.kind, .int .i64 o.block]] w' (fun e w3 => ∃ b4 c4, e = .returned (.tuple #[.agg #[.int .i64 f, .slice (some ⟨b4, 0, none⟩) n c4], .bool true]) ∧ Hid (Both w w3 g b c f n b4 c4 (doL f l o) ∧ Fr (One b) w' w3))) := fun w' hf =>
        (do_any g b c f n b3 c3 l o w' (KP.out.m.m.fr0 hf) (KP.out.r.fr0 hf) hoo (HT.out.fr0 (KP.out.m.fr.trans hf)) (HA.out.fr0 (KP.out.m.fr.trans hf))).mono fun e w3 ⟨b4, c4, he, hm4, hr4, hf4⟩ => ⟨b4, c4, he, ⟨(KP.out.fr0 hf).m.step hf4 hm4, hr4⟩, hf4⟩
      have NB := Lib.hid nb
      have hq : (k : Int) < (len : Int) := by omega
      clear ho hoo e' nb
      go_wp2
      go_region_with (first
        | (go_at_call 23; refine (HC.out _ hc1).mono ?_; rintro e w3 ⟨b4, c4, rfl, K4⟩)
        | (go_at_call 23; refine (HC.out _ hc2).mono ?_; rintro e w3 ⟨b4, c4, rfl, K4⟩; obtain ⟨p0, p1, p2, p3⟩ := (BB.out.fr K4.out.2 (NB.out _ _ _ hc2 BB.out)).two))
      all_goals
        first
          | (have P4 : Hid (Both w (w3.alloc (.cells #[.int .i64 f, .slice (some ⟨b4, 0, none⟩) n c4] 28)) g b c f n b4 c4 (doL f l o)) := Both.fr0 K4.out.1 ((Fr.refl _ _).alloc _)
             have X4 := Lib.hid (((KX.out.fr hc1 (fun x => x)).fr K4.out.2 (NB.out _ _ _ hc1 (KX.out.fr hc1 (fun x => x)))).alloc (.cells #[.int .i64 f, .slice (some ⟨b4, 0, none⟩) n c4] 28))
             have Y4 := Lib.hid (Blk.new w3 28 #[.int .i64 f, .slice (some ⟨b4, 0, none⟩) n c4])
             have HS := Lib.hid (Same_true g b c f n b4 c4 (doL f l o) _ P4.out.m.m P4.out.r)
             unfold mv at HS
             clear K4 x0 x1 x2 x3 q0 q1 q2 q3 KP KX
             go_wp2_with fail
             with_reducible refine HS.out.mono ?_
             rintro e w5 ⟨rfl, hf5⟩
             have P5 := Lib.hid (P4.out.fr0 hf5)
             have X5 := Lib.hid (X4.out.fr hf5 (fun x => x))
             obtain ⟨y0, y1, _, _⟩ := (Y4.out.fr hf5 (fun x => x)).two
             obtain ⟨z0, z1, z2, z3⟩ := X5.out.two
             have P6 := Lib.hid (P5.out.store X5.out HX0.out (.int .i64 f) (.slice (some ⟨b4, 0, none⟩) n c4))
             have X6 := Lib.hid (X5.out.set2 (.int .i64 f) (.slice (some ⟨b4, 0, none⟩) n c4))
             clear hf5 HS P4 X4 Y4
             go_wp2
             go_roundw
             case rel => exact ⟨k + 1, by omega, by go_num, _, b4, c4, P6.out, X6.out⟩
             case measure => simp [intOf]; omega)
          | (have hbz : w.heap.size ≤ wr.heap.size := KP.out.m.fr.size
             have hne : X ≠ wr.heap.size := by have := KX.out.lt; omega
             have B3 := BB.out.fr K4.out.2 (NB.out _ _ _ hc2 BB.out)
             have P4 := Lib.hid (K4.out.1.store B3 hbz (.int .i64 f) (.slice (some ⟨b4, 0, none⟩) n c4))
             have X4 := Lib.hid (((KX.out.fr hc2 (fun x => x)).fr K4.out.2 (NB.out _ _ _ hc2 (KX.out.fr hc2 (fun x => x)))).fr (fr_one2 w3 wr.heap.size (.int .i64 f) (.slice (some ⟨b4, 0, none⟩) n c4)) (fun e => hne e))
             have Y4 := Lib.hid (B3.set2 (.int .i64 f) (.slice (some ⟨b4, 0, none⟩) n c4))
             have HS := Lib.hid (Same_true g b c f n b4 c4 (doL f l o) _ P4.out.m.m P4.out.r)
             obtain ⟨v0, v1, _, _⟩ := Y4.out.two
             unfold mv at HS
             clear K4 x0 x1 x2 x3 q0 q1 q2 q3 KP KX hbz hne B3
             go_wp2_with fail
             with_reducible refine HS.out.mono ?_
             rintro e w5 ⟨rfl, hf5⟩
             have P5 := Lib.hid (P4.out.fr0 hf5)
             have X5 := Lib.hid (X4.out.fr hf5 (fun x => x))
             obtain ⟨y0, y1, _, _⟩ := (Y4.out.fr hf5 (fun x => x)).two
             obtain ⟨z0, z1, z2, z3⟩ := X5.out.two
             have P6 := Lib.hid (P5.out.store X5.out HX0.out (.int .i64 f) (.slice (some ⟨b4, 0, none⟩) n c4))
             have X6 := Lib.hid (X5.out.set2 (.int .i64 f) (.slice (some ⟨b4, 0, none⟩) n c4))
             clear hf5 HS P4 X4 Y4
             go_wp2
             go_roundw
             case rel => exact ⟨k + 1, by omega, by go_num, _, b4, c4, P6.out, X6.out⟩
             case measure => simp [intOf]; omega)
    · have hd' : decide (k < len) = false ∨ (decide (k < len) = true ∧ decide ((k : Int) < 60) = false) := by
        by_cases a : k < len
        · exact .inr ⟨by simpa using a, by simp; omega⟩
        · exact .inl (by simpa using a)
      clear hgo
      rcases hd' with d1 | ⟨d1, d2⟩
      all_goals
        go_wp2
        go_ret
        exact ⟨rfl, KP.out.m.fr⟩

theorem BlocksPlays_int (x y : Int) (A : Option Addr) (len cap : Nat) (L : List OpV) (w : World) (S : Nat → Prop) (hx : 0 ≤ x ∧ x < 65536) (hy : 0 ≤ y ∧ y < 256) (hL : Rd w S 2 A len (ocells L)) (hok : ∀ o ∈ L, o.ok) (hlen : len ≤ 9223372036854775807) (tc : TabC w) (ta : TabA w) :
    Calls Tryd.prog 4 #[.int .u16 x, .int .u8 y, .slice A len cap] w (TrueNew w) := by
  obtain ⟨a, rfl⟩ := Int.eq_ofNat_of_zero_le hx.1
  obtain ⟨b, rfl⟩ := Int.eq_ofNat_of_zero_le hy.1
  exact BlocksPlays_any a b A len cap L w S (by omega) (by omega) hL hok hlen tc ta (TabAt.size2 tc)
end Go.Proofs.YtejajafbopabmaaDoor
