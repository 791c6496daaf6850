/- The law's begin, and the walk of BlocksNil. -/
import Derived.Test.YtejajafbopabmaaDoorBlkX
import Derived.Test.YtejajafbopabmaaDoorRegion
namespace Go.Proofs.YtejajafbopabmaaDoor
open Go.RowKit

/-- A map and the reference's, new, with the same states. -/
def Begun (w : World) (f n : Nat) (e : Ending) (w' : World) : Prop :=
  ∃ g b c b2 c2, e = .returned (.tuple #[.pointer (some ⟨g, 0, none⟩), mv f b2 c2 n]) ∧ Mine w w' g b c f n (List.replicate n 0) ∧ RM w' b2 c2 n (List.replicate n 0)

set_option maxRecDepth 100000 in
set_option maxHeartbeats 2000000 in
theorem begin_any (x y : Nat) (w : World) (hx : x < 65536) (hy : y < 256) (h3 : 2 ≤ w.heap.size) :
    Calls Tryd.prog 21 #[.int .u16 x, .int .u8 y] w (Begun w (x % 1000) (1 + y % 40)) := by
  have a1 : (x : Int) % 1000 = ((x % 1000 : Nat) : Int) := by omega
  have a2 : (y : Int) % 40 = ((y % 40 : Nat) : Int) := by omega
  have a3 : 1 + ((y % 40 : Nat) : Int) = ((1 + y % 40 : Nat) : Int) := by omega
  have e1 : x % 1000 ≤ 1000 := by omega
  have e2 : 1 + y % 40 ≤ 40 := by omega
  have e3 : 1 ≤ 1 + y % 40 := by omega
  have e4 : ((y % 40 : Nat) : Int) ≤ 39 := by omega
  generalize x % 1000 = f at *
  generalize hm : y % 40 = m at *
  clear hm
  generalize hn : 1 + m = n at *
  have HN := Lib.hid hn
  clear hn
  have HB := Lib.hid (Blk.new w 28 #[.int .i64 0, .slice none 0 0])
  go_enter Tryd.func21, Tryd.ntmps21
  go_wp2_with fail
  refine (New_ok f n _ (by omega) (by omega) (by omega) (by simp; omega)).mono ?_
  rintro e w1 ⟨g, b, c, rfl, hm, hf, hg, hb⟩
  simp at hg hb
  have M1 : Hid (Mine w w1 g b c f n (List.replicate n 0)) := ⟨hm, ((Fr.refl _ _).alloc _).trans hf, by omega, by omega⟩
  have B1 := Lib.hid (HB.out.fr hf (fun x => x))
  clear hm hf hg hb HB
  go_wp2_with fail
  refine (rNew_ok f n _ (by omega) (by omega) (by omega)).mono ?_
  rintro e w2 ⟨b2, c2, rfl, hr, hf⟩
  have M2 := Lib.hid ((M1.out.fr0 hf).fr0 ((Fr.refl _ w2).alloc (.cells #[.int .i64 f, .slice (some ⟨b2, 0, none⟩) n c2] 28)))
  have B2 := Lib.hid ((B1.out.fr hf (fun x => x)).alloc (.cells #[.int .i64 f, .slice (some ⟨b2, 0, none⟩) n c2] 28))
  have R2 := Lib.hid (hr.fr0 ((Fr.refl _ w2).alloc (.cells #[.int .i64 f, .slice (some ⟨b2, 0, none⟩) n c2] 28)))
  have X2 := Lib.hid (Blk.new w2 28 #[.int .i64 f, .slice (some ⟨b2, 0, none⟩) n c2])
  clear hr hf M1 B1
  unfold mv
  go_wp2
  generalize (w2.alloc (.cells #[.int .i64 f, .slice (some ⟨b2, 0, none⟩) n c2] 28)) = W3 at *
  obtain ⟨x0, x1, _, _⟩ := X2.out.two
  obtain ⟨y0, y1, y2, y3⟩ := B2.out.two
  go_region
  all_goals
    go_wp2
    have hB5 := (B2.out.set2 (.int .i64 f) (.slice (some ⟨b2, 0, none⟩) n c2)).drew
    obtain ⟨m0, m1, _, _⟩ := hB5.two
    have hfr := (fr_one2 W3 w.heap.size (.int .i64 f) (.slice (some ⟨b2, 0, none⟩) n c2)).drew
    have hgR : g ≠ w.heap.size := M2.out.m.blk.ne_ B2.out (by decide)
    have hbR : b ≠ w.heap.size := fun e => by have := own_blk_ne M2.out.m.own B2.out (by decide); simp [Value.ownBlock, e] at this
    exact bodyPost_ret (v := .tuple #[.pointer (some ⟨g, 0, none⟩), mv f b2 c2 n]) (by simp [results, Tryd.results21, go_sem, mv, m0, m1]) rfl ⟨g, b, c, b2, c2, rfl,
      ⟨M2.out.m.fr hfr (fun e => hgR e) (fun e => hbR e), M2.out.fr.then_ hfr (fun i hi e => by have e' : i = w.heap.size := e; omega), M2.out.hg, M2.out.hb⟩, R2.out.fr hfr (R2.out.ne_blk B2.out (by decide))⟩
end Go.Proofs.YtejajafbopabmaaDoor
