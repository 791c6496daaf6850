/- The walk of BlocksClones. -/
import Derived.Test.YtejajafbopabmaaDoorBlkY
import Derived.Test.YtejajafbopabmaaDoorBlkW
namespace Go.Proofs.YtejajafbopabmaaDoor
open Go.RowKit

theorem ints_inj {l l' : List UInt8} : ints l = ints l' ↔ l = l' := by
  constructor
  · intro h
    have := congrArg Lib.bytesOf h
    rwa [bytesOf_ints, bytesOf_ints] at this
  · intro h; rw [h]
theorem RM.rdi {w : World} {b c n : Nat} {l : List UInt8} (h : RM w b c n l) : Rd w (Rows1 (.slice (some ⟨b, 0, none⟩) n c)) 1 (some ⟨b, 0, none⟩) n ((ints l).map (Value.int .i64)) := by
  have e : (ints l).map (Value.int .i64) = l.map ri := by simp [ints, ri]
  rw [e]
  exact h.rd
theorem rSame_rm {w : World} {b c n b' c' n' : Nat} {l l' : List UInt8} (h : RM w b c n l) (h' : RM w b' c' n' l') :
    Calls Tryd.prog 19 #[.slice (some ⟨b, 0, none⟩) n c, .slice (some ⟨b', 0, none⟩) n' c'] w (Gives w (.bool (decide (l = l')))) := by
  have hn := h.hn
  have hn' := h'.hn
  have := rSame_any _ _ n c n' c' (ints l) (ints l') w _ _ h.rdi h'.rdi (by omega) (by omega)
  rwa [show decide (ints l = ints l') = decide (l = l') by rw [decide_eq_decide]; exact ints_inj] at this
theorem Equal_same {w : World} {g b c f n g' b' c' n' : Nat} {l l' : List UInt8} (h : BM w g b c f n l) (h' : BM w g' b' c' f n' l') :
    Calls Tryd.prog 29 #[.pointer (some ⟨g, 0, none⟩), .pointer (some ⟨g', 0, none⟩)] w (Gives w (.bool (decide (l = l')))) := by
  have := Equal_any g b c f n l g' b' c' f n' l' w h h'
  rwa [decide_eq_true rfl, Bool.true_and] at this

set_option maxRecDepth 100000 in
set_option maxHeartbeats 2000000 in
theorem BlocksClones_any (x ya yb : Nat) (A A' : Option Addr) (len cap len' cap' : Nat) (L L' : List OpV) (w : World) (S S' : Nat → Prop) (hx : x < 65536) (hya : ya < 256) (hyb : yb < 256) (hL : Rd w S 2 A len (ocells L)) (hok : ∀ o ∈ L, o.ok) (hlen : len ≤ 9223372036854775807) (hL' : Rd w S' 2 A' len' (ocells L')) (hok' : ∀ o ∈ L', o.ok) (hlen' : len' ≤ 9223372036854775807) (tc : TabC w) (ta : TabA w) (h3 : 2 ≤ w.heap.size) :
    Calls Tryd.prog 7 #[.int .u16 x, .agg #[.int .u8 ya, .int .u8 yb], .agg #[.slice A len cap, .slice A' len' cap']] w (TrueNew w) := by
  have HN : Hid (L'.length = len') := by have := hL'.1; rw [ocells_length] at this; simp only [Hid]; omega
  have f0 : Fr Nothing w ((w.alloc (.cells #[.int .u8 ya, .int .u8 yb] 52)).alloc (.cells #[.slice A len cap, .slice A' len' cap'] 53)) := ((Fr.refl _ _).alloc _).alloc _
  have hb0 : Blk ((w.alloc (.cells #[.int .u8 ya, .int .u8 yb] 52)).alloc (.cells #[.slice A len cap, .slice A' len' cap'] 53)) w.heap.size 52 #[.int .u8 ya, .int .u8 yb] := (Blk.new _ _ _).alloc _
  have hb1 : Blk ((w.alloc (.cells #[.int .u8 ya, .int .u8 yb] 52)).alloc (.cells #[.slice A len cap, .slice A' len' cap'] 53)) (w.heap.size + 1) 53 #[.slice A len cap, .slice A' len' cap'] := by
    have := Blk.new (w.alloc (.cells #[.int .u8 ya, .int .u8 yb] 52)) 53 #[.slice A len cap, .slice A' len' cap']
    rw [World.size_alloc] at this
    exact this
  have F0 := Lib.hid f0
  have B0 := Lib.hid hb0
  have B1 := Lib.hid hb1
  have HL := Lib.hid (hL.fr0 f0)
  have HK := Lib.hid hok
  have HL' := Lib.hid (hL'.fr0 f0)
  have HK' := Lib.hid hok'
  have HT := Lib.hid (tc.fr0 f0)
  have HA := Lib.hid (ta.fr0 f0)
  have h3' := Nat.le_trans h3 f0.size
  clear hL hok hL' hok' tc ta f0 hb0 hb1 h3
  go_enter Tryd.func7, Tryd.ntmps7
  go_wp2_with fail
  generalize ((w.alloc (.cells #[.int .u8 ya, .int .u8 yb] 52)).alloc (.cells #[.slice A len cap, .slice A' len' cap'] 53)) = W at *
  refine (known_any _ HT.out h3').mono ?_
  rintro e w1 ⟨rfl, hf1⟩
  have F1 := Lib.hid hf1
  obtain ⟨c0, c1, _, _⟩ := (B0.out.fr hf1 (fun x => x)).two
  obtain ⟨d0, d1, _, _⟩ := (B1.out.fr hf1 (fun x => x)).two
  clear hf1
  go_wp2_with fail
  refine (play_any x ya A len cap L _ S hx hya (HL.out.fr0 F1.out) HK.out hlen (HT.out.fr0 F1.out) (HA.out.fr0 F1.out) (Nat.le_trans h3' F1.out.size)).mono ?_
  rintro e w2 ⟨g, b, c, b2, c2, l, rfl, hP⟩
  have hff : x % 1000 ≤ 1000 := by omega
  generalize hfx : x % 1000 = f at *
  generalize 1 + ya % 40 = n at *
  have P2 : Hid (Both W (w2.alloc (.cells #[.int .i64 f, .slice (some ⟨b2, 0, none⟩) n c2] 28)) g b c f n b2 c2 l) :=
    Both.fr0 ⟨⟨hP.m.m, F1.out.trans hP.m.fr, Nat.le_trans F1.out.size hP.m.hg, Nat.le_trans F1.out.size hP.m.hb⟩, hP.r⟩ ((Fr.refl _ _).alloc _)
  have X2 := Lib.hid (Blk.new w2 28 #[.int .i64 f, .slice (some ⟨b2, 0, none⟩) n c2])
  have HX2 : Hid (W.heap.size ≤ w2.heap.size) := Nat.le_trans F1.out.size hP.m.fr.size
  obtain ⟨c0', c1', _, _⟩ := (B0.out.fr P2.out.m.fr (fun x => x)).two
  obtain ⟨d0', d1', _, _⟩ := (B1.out.fr P2.out.m.fr (fun x => x)).two
  clear hP c0 c1 d0 d1
  unfold mv
  have HP2 := Lib.hid (play_any x yb A' len' cap' L' _ S' hx hyb (HL'.out.fr0 P2.out.m.fr) HK'.out hlen' (HT.out.fr0 P2.out.m.fr) (HA.out.fr0 P2.out.m.fr) (Nat.le_trans h3' P2.out.m.fr.size))
  rw [hfx] at HP2
  clear hfx
  go_wp2_with fail
  refine HP2.out.mono ?_
  rintro e w3 ⟨g', b', c', b2', c2', l', rfl, hP'⟩
  generalize 1 + yb % 40 = n' at *
  generalize w2.heap.size = X at *
  generalize (w2.alloc (.cells #[.int .i64 f, .slice (some ⟨b2, 0, none⟩) n c2] 28)) = W2 at *
  have F3 : Hid (Fr Nothing W2 (w3.alloc (.cells #[.int .i64 f, .slice (some ⟨b2', 0, none⟩) n' c2'] 28))) := hP'.m.fr.alloc _
  have P3 := Lib.hid (P2.out.fr0 F3.out)
  have X3 := Lib.hid (X2.out.fr F3.out (fun x => x))
  have R3 := Lib.hid (hP'.m.m.fr0 ((Fr.refl _ w3).alloc (.cells #[.int .i64 f, .slice (some ⟨b2', 0, none⟩) n' c2'] 28)))
  have S3 := Lib.hid (hP'.r.fr0 ((Fr.refl _ w3).alloc (.cells #[.int .i64 f, .slice (some ⟨b2', 0, none⟩) n' c2'] 28)))
  have Z3 := Lib.hid (Blk.new w3 28 #[.int .i64 f, .slice (some ⟨b2', 0, none⟩) n' c2'])
  clear hP' HP2 c0' c1' d0' d1' P2 X2 F3
  unfold mv
  go_wp2
  generalize w3.heap.size = X' at *
  generalize (w3.alloc (.cells #[.int .i64 f, .slice (some ⟨b2', 0, none⟩) n' c2'] 28)) = W3 at *
  have q0 : ∀ y : In (Later W3), y.w.cell? ⟨X, 1, none⟩ = some (.slice (some ⟨b2, 0, none⟩) n c2) := fun y => (X3.out.fr y.h (fun x => x)).cell 1
  have q1 : ∀ y : In (Later W3), y.w.cell? ⟨X', 1, none⟩ = some (.slice (some ⟨b2', 0, none⟩) n' c2') := fun y => (Z3.out.fr y.h (fun x => x)).cell 1
  have CE := Lib.hid (fun y : In (Later W3) => Equal_same (P3.out.m.m.fr0 y.h) (R3.out.fr0 y.h))
  have CR := Lib.hid (fun y : In (Later W3) => rSame_rm (P3.out.r.fr0 y.h) (S3.out.fr0 y.h))
  have t1 : (decide (l = l') != decide (l = l')) = false := by simp
  generalize decide (l = l') = Bq at *
  refine wp_region_in (Later W3) ((Fr.refl _ _).drew) (by kernel_rfl) (by kernel_rfl) ?_
  repeat (go_big_quiet_step (first | (go_at_call 29; exact In.later (CE.out _)) | (go_at_call 19; exact In.later (CR.out _))))
  refine wpQuiet_nil ?_
  rintro _ ⟨y, rfl⟩
  have F4 := Lib.hid y.h
  generalize y.w = w4 at *
  clear q0 q1 CE CR y t1 R3 S3 Z3
  have P4 := Lib.hid (P3.out.fr0 F4.out)
  have X4 := Lib.hid (X3.out.fr F4.out (fun x => x))
  clear P3 X3 F4
  go_wp2_with fail
  refine (Clone_map g b c f n l _ P4.out.m.m).mono ?_
  rintro e w5 ⟨g3, b3, c3, rfl, hm5, hf5, hg5, hb5⟩
  have P5 := Lib.hid (P4.out.fr0 hf5)
  have X5 := Lib.hid (X4.out.fr hf5 (fun x => x))
  have N5 : Hid (Mine W w5 g3 b3 c3 f n l) := ⟨hm5, P5.out.m.fr, Nat.le_trans P4.out.m.fr.size hg5, Nat.le_trans P4.out.m.fr.size hb5⟩
  have HNE : Hid (g ≠ b3 ∧ b ≠ b3 ∧ b2 ≠ b3) := by
    have a1 := P4.out.m.m.blk.lt
    have a2 := own_lt P4.out.m.m.own
    have a3 := P4.out.r.lt
    simp only [Hid]
    omega
  have CE := Lib.hid (Equal_same hm5 P5.out.m.m)
  rw [decide_eq_true rfl] at CE
  clear hm5 hf5 hg5 hb5 P4 X4
  go_wp2_with fail
  refine CE.out.mono ?_
  rintro e w6 ⟨rfl, hf6⟩
  have P6 := Lib.hid (P5.out.fr0 hf6)
  have X6 := Lib.hid (X5.out.fr hf6 (fun x => x))
  have N6 := Lib.hid (N5.out.fr0 hf6)
  obtain ⟨x0, x1, _, _⟩ := X6.out.two
  clear hf6 CE P5 X5 N5
  have fy : Fr Nothing w6 (w6.alloc (.cells #[.int .i64 f, .slice (some ⟨b2, 0, none⟩) n c2] 28)) := (Fr.refl _ _).alloc _
  have P7 := Lib.hid (P6.out.fr0 fy)
  have X7 := Lib.hid (X6.out.fr fy (fun x => x))
  have N7 := Lib.hid (N6.out.fr0 fy)
  have Y7 := Lib.hid (Blk.new w6 28 #[.int .i64 f, .slice (some ⟨b2, 0, none⟩) n c2])
  have HY0 : Hid (W.heap.size ≤ w6.heap.size ∧ X ≠ w6.heap.size) := ⟨P6.out.m.fr.size, by have := X6.out.lt; omega⟩
  clear fy P6 X6 N6
  go_wp2
  generalize w6.heap.size = YY at *
  generalize (w6.alloc (.cells #[.int .i64 f, .slice (some ⟨b2, 0, none⟩) n c2] 28)) = W7 at *
  go_loopw [15] (fun i wr => ∃ k : Nat, k ≤ len' ∧ i = .int .i64 k ∧ Both W wr g b c f n b2 c2 l ∧ Blk wr X 28 #[.int .i64 f, .slice (some ⟨b2, 0, none⟩) n c2] ∧ Hid (∃ ly by_ cy, Mine W wr g3 b3 c3 f n ly ∧ RM wr by_ cy n ly ∧ Blk wr YY 28 #[.int .i64 f, .slice (some ⟨by_, 0, none⟩) n cy])) (fun i _ => len' - (intOf i).toNat)
  case atStart => exact ⟨0, Nat.zero_le _, rfl, P7.out, X7.out, _, b2, c2, N7.out, P7.out.r, Y7.out⟩
  case round =>
    obtain ⟨k, hk, rfl, hP, hX, HE⟩ := hrel
    obtain ⟨ly, by_, cy, hN, hR, hY⟩ := HE.out
    have KP := Lib.hid hP
    have KX := Lib.hid hX
    have KN := Lib.hid hN
    have KR := Lib.hid hR
    have KY := Lib.hid hY
    clear hP hX hN hR hY HE P7 X7 N7 Y7
    obtain ⟨e0, e1, _, _⟩ := (B1.out.fr KP.out.m.fr (fun x => x)).two
    by_cases hgo : k < len' ∧ k < 60
    · obtain ⟨hlt, h60⟩ := hgo
      obtain ⟨o, ho⟩ : ∃ o, L'[k]? = some o := ⟨_, List.getElem?_eq_getElem (by rw [HN.out]; exact hlt)⟩
      obtain ⟨ad, rfl, _, q0, q1⟩ := (HL'.out.fr0 KP.out.m.fr.drew).opAt ho
      have hoo := HK'.out o (List.mem_of_getElem? ho)
      obtain ⟨y0, y1, y2, y3⟩ := KY.out.drew.two
      obtain ⟨e0', e1', _, _⟩ := (B1.out.fr KP.out.m.fr.drew (fun x => x)).two
      have ND := Lib.hid (KN.out.fr0 ((Fr.refl _ wr).drew))
      have RD := Lib.hid (KR.out.fr0 ((Fr.refl _ wr).drew))
      have HC := Lib.hid (do_any g3 b3 c3 f n by_ cy ly o _ ND.out.m RD.out hoo (HT.out.fr0 ND.out.fr) (HA.out.fr0 ND.out.fr))
      unfold mv at HC
      have hq : (k : Int) < (len' : Int) := by omega
      clear ho hoo
      go_wp2
      go_region_with (first
        | (go_at_call 23
           refine HC.out.mono ?_
           rintro e w8 ⟨b4, c4, rfl, hm4, hr4, hf4⟩
           have nb : ∀ {R : Nat} {cs : Array Value}, Blk wr.drew R 28 cs → ¬ One b3 R := fun hB e => by
             have e' : _ = b3 := e
             have := own_blk_ne ND.out.m.own hB (by decide)
             simp [Value.ownBlock, e'] at this
           have N8 := Lib.hid (ND.out.step hf4 hm4)
           have fd : Fr (One b3) wr w8 := ((Fr.refl _ wr).drew.weak).trans hf4
           have P8 : Hid (Both W w8 g b c f n b2 c2 l) := ⟨⟨KP.out.m.m.fr fd (fun e => HNE.out.1 e) (fun e => HNE.out.2.1 e), N8.out.fr, KP.out.m.hg, KP.out.m.hb⟩, KP.out.r.fr fd (fun e => HNE.out.2.2 e)⟩
           have X8 := Lib.hid (KX.out.drew.fr hf4 (nb KX.out.drew))
           have Y8 := Lib.hid (KY.out.drew.fr hf4 (nb KY.out.drew))
           have NN : Hid (Both W w8 g3 b3 c3 f n b4 c4 (doL f ly o)) := ⟨N8.out, hr4⟩
           have N9 := Lib.hid (NN.out.store Y8.out HY0.out.1 (.int .i64 f) (.slice (some ⟨b4, 0, none⟩) n c4))
           have P9 := Lib.hid (P8.out.store Y8.out HY0.out.1 (.int .i64 f) (.slice (some ⟨b4, 0, none⟩) n c4))
           have X9 := Lib.hid (X8.out.fr (fr_one2 w8 YY (.int .i64 f) (.slice (some ⟨b4, 0, none⟩) n c4)) (fun e => HY0.out.2 e))
           have Y9 := Lib.hid (Y8.out.set2 (.int .i64 f) (.slice (some ⟨b4, 0, none⟩) n c4))
           obtain ⟨z0, z1, z2, z3⟩ := Y8.out.two
           clear hm4 hr4 hf4 nb fd HC ND RD y0 y1 y2 y3 q0 q1 KP KX KN KR KY e0 e1 e0' e1'
           unfold mv))
      all_goals
        go_wp2
        go_roundw
        case rel => exact ⟨k + 1, by omega, by go_num, P9.out, X9.out, _, b4, c4, N9.out.m, N9.out.r, Y9.out⟩
        case measure => simp [intOf]; omega
    · have hd' : decide (k < len') = false ∨ (decide (k < len') = true ∧ decide ((k : Int) < 60) = false) := by
        by_cases a : k < len'
        · exact .inr ⟨by simpa using a, by simp; omega⟩
        · exact .inl (by simpa using a)
      clear hgo
      rcases hd' with u1 | ⟨u1, u2⟩
      all_goals
        go_wp2
        have q0 : ∀ y : In (Later wr), y.w.cell? ⟨X, 0, none⟩ = some (.int .i64 f) := fun y => (KX.out.fr y.h (fun x => x)).cell 0
        have q1 : ∀ y : In (Later wr), y.w.cell? ⟨X, 1, none⟩ = some (.slice (some ⟨b2, 0, none⟩) n c2) := fun y => (KX.out.fr y.h (fun x => x)).cell 1
        have q2 : ∀ y : In (Later wr), y.w.cell? ⟨YY, 0, none⟩ = some (.int .i64 f) := fun y => (KY.out.fr y.h (fun x => x)).cell 0
        have q3 : ∀ y : In (Later wr), y.w.cell? ⟨YY, 1, none⟩ = some (.slice (some ⟨by_, 0, none⟩) n cy) := fun y => (KY.out.fr y.h (fun x => x)).cell 1
        have CS1 : Hid (∀ y : In (Later wr), Calls Tryd.prog 22 #[.pointer (some ⟨g, 0, none⟩), .agg #[.int .i64 f, .slice (some ⟨b2, 0, none⟩) n c2]] y.w fun e w'' => e = .returned (.bool true) ∧ ∃ z : In (Later wr), w'' = z.w) := fun y => In.later (Same_true g b c f n b2 c2 l y.w (KP.out.m.m.fr0 y.h) (KP.out.r.fr0 y.h))
        have CS2 : Hid (∀ y : In (Later wr), Calls Tryd.prog 22 #[.pointer (some ⟨g3, 0, none⟩), .agg #[.int .i64 f, .slice (some ⟨by_, 0, none⟩) n cy]] y.w fun e w'' => e = .returned (.bool true) ∧ ∃ z : In (Later wr), w'' = z.w) := fun y => In.later (Same_true g3 b3 c3 f n by_ cy ly y.w (KN.out.m.fr0 y.h) (KR.out.fr0 y.h))
        have CE := Lib.hid (fun y : In (Later wr) => Equal_same (KN.out.m.fr0 y.h) (KP.out.m.m.fr0 y.h))
        have CR := Lib.hid (fun y : In (Later wr) => rSame_rm (KR.out.fr0 y.h) (KP.out.r.fr0 y.h))
        have t1 : (decide (ly = l) == decide (ly = l)) = true := by simp
        generalize decide (ly = l) = Bz at *
        refine wp_region_in (Later wr) ((Fr.refl _ _).drew) (by kernel_rfl) (by kernel_rfl) ?_
        repeat (go_big_quiet_step (first | (go_at_call 22; first | (with_reducible exact CS1.out _) | (with_reducible exact CS2.out _)) | (go_at_call 29; exact In.later (CE.out _)) | (go_at_call 19; exact In.later (CR.out _))))
        refine wpQuiet_nil ?_
        rintro _ ⟨y, rfl⟩
        have F9 := Lib.hid ((F0.out.trans KP.out.m.fr).trans y.h)
        generalize y.w = w9 at *
        clear q0 q1 q2 q3 CS1 CS2 CE CR y t1
        go_wp2
        go_ret
        exact ⟨rfl, F9.out⟩
end Go.Proofs.YtejajafbopabmaaDoor
