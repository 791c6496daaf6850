/- The law's play: a map and the reference's, played alike. -/
import Derived.Test.YtejajafbopabmaaDoorBlkN
import Derived.Test.YtejajafbopabmaaDoorBlkO
namespace Go.Proofs.YtejajafbopabmaaDoor
open Go.RowKit

/-- A map and the reference's with the same states, whatever they are. -/
structure Both (w0 w : World) (g b c f n b2 c2 : Nat) (l : List UInt8) : Prop where
  m : Mine w0 w g b c f n l
  r : RM w b2 c2 n l
theorem Both.fr0 {w0 w w' : World} {g b c f n b2 c2 : Nat} {l : List UInt8} (h : Both w0 w g b c f n b2 c2 l) (hf : Fr Nothing w w') : Both w0 w' g b c f n b2 c2 l := ⟨h.m.fr0 hf, h.r.fr0 hf⟩

def Played (w : World) (f n : Nat) (e : Ending) (w' : World) : Prop :=
  ∃ g b c b2 c2 l, e = .returned (.tuple #[.pointer (some ⟨g, 0, none⟩), mv f b2 c2 n, .bool true]) ∧ Both w w' g b c f n b2 c2 l

/-- A struct of the reference's stored in its box R. -/
theorem Both.store {w0 w : World} {g b c f n b2 c2 R : Nat} {l : List UInt8} {cs : Array Value} (h : Both w0 w g b c f n b2 c2 l) (hR : Blk w R 28 cs) (h0 : w0.heap.size ≤ R) (x y : Value) :
    Both w0 ((w.setCell ⟨R, 0, none⟩ x).setCell ⟨R, 1, none⟩ y) g b c f n b2 c2 l := by
  have hfr := fr_one2 w R x y
  have hgR : g ≠ R := h.m.m.blk.ne_ hR (by decide)
  have hbR : b ≠ R := fun e => by have := own_blk_ne h.m.m.own hR (by decide); simp [Value.ownBlock, e] at this
  exact ⟨⟨h.m.m.fr hfr (fun e => hgR e) (fun e => hbR e), h.m.fr.then_ hfr (fun i hi e => by have e' : i = R := e; omega), h.m.hg, h.m.hb⟩, h.r.fr hfr (h.r.ne_blk hR (by decide))⟩

set_option maxRecDepth 100000 in
set_option maxHeartbeats 4000000 in
theorem play_any (x y : Nat) (A : Option Addr) (len cap : Nat) (L : List OpV) (w : World) (S : Nat → Prop) (hx : x < 65536) (hy : y < 256) (hL : Rd w S 2 A len (ocells L)) (hok : ∀ o ∈ L, o.ok) (_ : len ≤ 9223372036854775807) (tc : TabC w) (ta : TabA w) (h3 : 2 ≤ w.heap.size) :
    Calls Tryd.prog 13 #[.int .u16 x, .int .u8 y, .slice A len cap] w (Played w (x % 1000) (1 + y % 40)) := by
  have HL := Lib.hid hL
  have HK := Lib.hid hok
  have HT := Lib.hid tc
  have HA := Lib.hid ta
  have HN : Hid (L.length = len) := by have := hL.1; rw [ocells_length] at this; simp only [Hid]; omega
  have HB := Lib.hid (Blk.new w 28 #[.int .i64 0, .slice none 0 0])
  clear hL hok tc ta
  go_enter Tryd.func13, Tryd.ntmps13
  go_wp2_with fail
  refine (begin_any x y _ hx hy (by simp; omega)).mono ?_
  rintro e w1 ⟨g, b, c, b2, c2, rfl, hm, hr⟩
  have hfn : x % 1000 ≤ 1000 := by omega
  have hnn : 1 + y % 40 ≤ 40 := by omega
  generalize x % 1000 = f at *
  generalize 1 + y % 40 = n at *
  have hm' : Mine w w1 g b c f n (List.replicate n 0) := ⟨hm.m, ((Fr.refl _ w).alloc _).trans hm.fr, by have := hm.hg; simp at this; omega, by have := hm.hb; simp at this; omega⟩
  have B1 := Lib.hid ((HB.out.fr hm.fr (fun x => x)).alloc (.cells #[.int .i64 f, .slice (some ⟨b2, 0, none⟩) n c2] 28))
  have X1 := Lib.hid (Blk.new w1 28 #[.int .i64 f, .slice (some ⟨b2, 0, none⟩) n c2])
  have P1 : Hid (Both w (w1.alloc (.cells #[.int .i64 f, .slice (some ⟨b2, 0, none⟩) n c2] 28)) g b c f n b2 c2 (List.replicate n 0)) := Both.fr0 ⟨hm', hr⟩ ((Fr.refl _ _).alloc _)
  have HX0 : Hid (w.heap.size ≤ w1.heap.size) := hm'.fr.size
  have HXB : Hid (w1.heap.size ≠ w.heap.size) := by
    have := (HB.out.fr hm.fr (fun x => x)).lt
    simp only [Hid]
    omega
  clear hm hr hm' HB
  unfold mv
  go_wp2
  generalize (w1.alloc (.cells #[.int .i64 f, .slice (some ⟨b2, 0, none⟩) n c2] 28)) = W at *
  generalize w1.heap.size = X at *
  go_loopw [11, 12] (fun v i wr => ∃ k : Nat, k ≤ len ∧ i = .int .i64 k ∧ v = .bool true ∧ Blk wr w.heap.size 28 #[.int .i64 0, .slice none 0 0] ∧ Hid (∃ l b2 c2, Both w wr g b c f n b2 c2 l ∧ Blk wr X 28 #[.int .i64 f, .slice (some ⟨b2, 0, none⟩) n c2])) (fun _ i _ => len - (intOf i).toNat)
  case atStart => exact ⟨0, Nat.zero_le _, rfl, rfl, B1.out, _, b2, c2, P1.out, X1.out⟩
  case round =>
    obtain ⟨k, hk, rfl, rfl, hB, HE⟩ := hrel
    obtain ⟨l, b3, c3, hP, hX⟩ := HE.out
    have KB := Lib.hid hB
    have KP := Lib.hid hP
    have KX := Lib.hid hX
    clear hB hP hX HE B1 P1 X1
    obtain ⟨x0, x1, x2, x3⟩ := KX.out.two
    by_cases hgo : k < len ∧ k < 60
    · obtain ⟨hlt, h60⟩ := hgo
      obtain ⟨o, ho⟩ : ∃ o, L[k]? = some o := ⟨_, List.getElem?_eq_getElem (by rw [HN.out]; exact hlt)⟩
      obtain ⟨ad, rfl, _, q0, q1⟩ := (HL.out.fr0 KP.out.m.fr).opAt ho
      have hoo := HK.out o (List.mem_of_getElem? ho)
      have hkind := hoo.kind
      have hz1 : -100 < o.block.tmod 100 := Int.lt_tmod_of_pos _ (by omega)
      have hz2 : o.block.tmod 100 < 100 := Int.tmod_lt_of_pos _ (by omega)
      have HO : Hid (OpV.ok ⟨o.kind, (f : Int) + o.block.tmod 100⟩) := ⟨hkind, by simp only; omega, by simp only; omega⟩
      have q2 := hoo.b1
      have q3 := hoo.b2
      clear ho hoo
      have XA := Lib.hid (KX.out.alloc (.cells #[.int .u8 o.kind, .int .i64 ((f : Int) + o.block.tmod 100)] 44))
      have BA := Lib.hid (KB.out.alloc (.cells #[.int .u8 o.kind, .int .i64 ((f : Int) + o.block.tmod 100)] 44))
      have PA := Lib.hid (KP.out.fr0 ((Fr.refl _ wr).alloc (.cells #[.int .u8 o.kind, .int .i64 ((f : Int) + o.block.tmod 100)] 44)))
      have HC := Lib.hid (do_any g b c f n b3 c3 l ⟨o.kind, (f : Int) + o.block.tmod 100⟩ _ PA.out.m.m PA.out.r HO.out (HT.out.fr0 PA.out.m.fr) (HA.out.fr0 PA.out.m.fr))
      unfold mv at HC
      obtain ⟨xa0, xa1, _, _⟩ := XA.out.two
      obtain ⟨xb0, xb1, _, _⟩ := (KX.out.alloc (.cells #[.int .u8 o.kind, .int .i64 o.block] 44)).two
      go_wp2_with fail
      refine HC.out.mono ?_
      rintro e w2 ⟨b4, c4, rfl, hm4, hr4, hf4⟩
      have nX : ¬ One b X := fun e => by
        have e' : X = b := e
        have := own_blk_ne PA.out.m.m.own XA.out (by decide)
        simp [Value.ownBlock, e'] at this
      have nB : ¬ One b w.heap.size := fun e => by
        have e' : w.heap.size = b := e
        have := own_blk_ne PA.out.m.m.own BA.out (by decide)
        simp [Value.ownBlock, e'] at this
      have X4 := Lib.hid (XA.out.fr hf4 nX)
      have B4 := Lib.hid (BA.out.fr hf4 nB)
      have P4 : Hid (Both w w2 g b c f n b4 c4 (doL f l ⟨o.kind, (f : Int) + o.block.tmod 100⟩)) := ⟨PA.out.m.step hf4 hm4, hr4⟩
      have P5 := Lib.hid (P4.out.store X4.out HX0.out (.int .i64 f) (.slice (some ⟨b4, 0, none⟩) n c4))
      have X5 := Lib.hid (X4.out.set2 (.int .i64 f) (.slice (some ⟨b4, 0, none⟩) n c4))
      have B5 := Lib.hid (B4.out.fr (fr_one2 w2 X (.int .i64 f) (.slice (some ⟨b4, 0, none⟩) n c4)) (fun e => HXB.out (show X = w.heap.size from (show w.heap.size = X from e).symm)))
      obtain ⟨y0, y1, y2, y3⟩ := X4.out.two
      clear hm4 hr4 hf4 nX nB HC XA BA PA xa0 xa1 xb0 xb1 x0 x1 x2 x3 q0 q1
      unfold mv
      go_wp2
      go_roundw
      case rel => exact ⟨k + 1, by omega, by go_num, rfl, B5.out, _, b4, c4, P5.out, X5.out⟩
      case measure => simp [intOf]; omega
    · have hd : decide ((k : Int) < (len : Int)) = false ∨ (decide ((k : Int) < (len : Int)) = true ∧ decide ((k : Int) < 60) = false) := by
        by_cases a : k < len
        · exact .inr ⟨by simp; omega, by simp; omega⟩
        · exact .inl (by simp; omega)
      have hd' : decide (k < len) = false ∨ (decide (k < len) = true ∧ decide ((k : Int) < 60) = false) := by
        by_cases a : k < len
        · exact .inr ⟨by simpa using a, by simp; omega⟩
        · exact .inl (by simpa using a)
      clear hgo hd
      obtain ⟨r0, r1, r2, r3⟩ := KB.out.two
      rcases hd' with d1 | ⟨d1, d2⟩
      all_goals
        go_wp2
        go_region
        all_goals
          go_wp2
          have hB5 := (KB.out.set2 (.int .i64 f) (.slice (some ⟨b3, 0, none⟩) n c3)).drew
          obtain ⟨m0, m1, _, _⟩ := hB5.two
          have P5 := (KP.out.store KB.out (Nat.le_refl _) (.int .i64 f) (.slice (some ⟨b3, 0, none⟩) n c3)).fr0 ((Fr.refl _ _).drew)
          exact bodyPost_ret (v := .tuple #[.pointer (some ⟨g, 0, none⟩), mv f b3 c3 n, .bool true]) (by simp [results, Tryd.results13, go_sem, mv, m0, m1]) rfl ⟨g, b, c, b3, c3, l, rfl, P5⟩
end Go.Proofs.YtejajafbopabmaaDoor
