/- The law's Same: it returns true where the map and the reference's agree. -/
import Derived.Test.YtejajafbopabmaaDoorBlkX
import Derived.Test.YtejajafbopabmaaDoorRegion
namespace Go.Proofs.YtejajafbopabmaaDoor
open Go.RowKit

theorem numK_eq : ∀ (l : List UInt8) (s : Int) (k : Nat), k ≤ l.length → numK l s k = ((l.take k).filter fun x => decide ((x.toNat : Int) = s)).length
  | l, s, 0, _ => by simp [numK]
  | l, s, k + 1, h => by
    rw [List.take_succ_eq_append_getElem (by omega), List.filter_append, List.length_append, ← numK_eq l s k (by omega)]
    have e : byteAt l k = (l[k]'(by omega)).toNat := by simp [byteAt, show k < l.length by omega]
    rw [show numK l s (k + 1) = if ((byteAt l k : Nat) : Int) = s then numK l s k + 1 else numK l s k from rfl, e]
    by_cases hs : (((l[k]'(by omega)).toNat : Nat) : Int) = s
    · rw [if_pos hs]; simp [hs]
    · rw [if_neg hs]; simp [hs]
theorem numL_numK {l : List UInt8} (h : ok4 l) (s : Int) : numL l s = numK l s l.length := by
  rw [numK_eq l s l.length (Nat.le_refl _), List.take_length]
  unfold numL
  split
  · rename_i hs
    rw [List.count_eq_countP, List.countP_eq_length_filter]
    congr 1
    apply List.filter_congr
    intro x _
    have hx := x.toNat_lt
    rw [Bool.eq_iff_iff]
    simp only [beq_iff_eq, decide_eq_true_eq]
    constructor
    · intro e
      rw [e, UInt8.toNat_ofNat_of_lt' (by simp; omega)]
      omega
    · intro e
      apply UInt8.toNat.inj
      rw [UInt8.toNat_ofNat_of_lt' (by simp; omega)]
      omega
  · rename_i hs
    symm
    rw [List.length_eq_zero_iff, List.filter_eq_nil_iff]
    intro x hx
    have := h x hx
    simp only [decide_eq_true_eq]
    omega

set_option maxRecDepth 100000 in
set_option maxHeartbeats 4000000 in
theorem Same_true (g b c f n b2 c2 : Nat) (l : List UInt8) (w : World) (h : BM w g b c f n l) (hr : RM w b2 c2 n l) :
    Calls Tryd.prog 22 #[.pointer (some ⟨g, 0, none⟩), mv f b2 c2 n] w (TrueNew w) := by
  have hf := h.hf
  have hn := h.hn
  have hB := Blk.new w 28 #[.int .i64 f, .slice (some ⟨b2, 0, none⟩) n c2]
  have h0 := h.fr0 ((Fr.refl _ w).alloc (.cells #[.int .i64 f, .slice (some ⟨b2, 0, none⟩) n c2] 28))
  have hr0 := hr.fr0 ((Fr.refl _ w).alloc (.cells #[.int .i64 f, .slice (some ⟨b2, 0, none⟩) n c2] 28))
  have hF0 : Fr Nothing w (w.alloc (.cells #[.int .i64 f, .slice (some ⟨b2, 0, none⟩) n c2] 28)) := (Fr.refl _ _).alloc _
  have HB := Lib.hid hB
  have H0 := Lib.hid h0
  have HR0 := Lib.hid hr0
  have HF0 := Lib.hid hF0
  have HNUM : Hid (∀ s, numL l s = numK l s n) := fun s => by rw [numL_numK h.o4, h.len]
  have HU := Lib.hid (fun w' (hb : BM w' g b c f n l) => Used_row g b c f n l w' hb)
  have HO := Lib.hid (fun w' (hb : BM w' g b c f n l) => Old_row g b c f n l w' hb)
  have HL12 := Lib.hid (fun w' (hb : RM w' b2 c2 n l) => rList_row12 f b2 c2 n l w' hb h.hf)
  have HL13 := Lib.hid (fun w' (hb : RM w' b2 c2 n l) => rList_row13 f b2 c2 n l w' hb h.hf)
  clear h hr hB h0 hr0 hF0
  unfold mv
  go_enter Tryd.func22, Tryd.ntmps22
  go_wp2
  generalize hsz : w.heap.size = B at *
  generalize (w.alloc (.cells #[.int .i64 f, .slice (some ⟨b2, 0, none⟩) n c2] 28)) = W at *
  clear hsz
  have q0 : ∀ x : In (Later W), x.w.cell? ⟨B, 0, none⟩ = some (.int .i64 f) := fun x => (HB.out.fr x.h (fun y => y)).cell 0
  have q1 : ∀ x : In (Later W), x.w.cell? ⟨B, 1, none⟩ = some (.slice (some ⟨b2, 0, none⟩) n c2) := fun x => (HB.out.fr x.h (fun y => y)).cell 1
  have t1 : ((f : Int) != (f : Int)) = false := by simp
  have t2 : ((n : Int) != (n : Int)) = false := by simp
  refine wp_region_in (Later W) ((Fr.refl _ _).drew) (by kernel_rfl) (by kernel_rfl) ?_
  repeat (go_big_quiet_step (first | (go_at_call 25; exact In.later (First_any g b c f n l _ (H0.out.fr0 (In.h _)))) | (go_at_call 26; exact In.later (Count_any g b c f n l _ (H0.out.fr0 (In.h _))))))
  refine wpQuiet_nil ?_
  rintro _ ⟨x, rfl⟩
  have HX := Lib.hid x.h
  generalize x.w = W1 at *
  clear q0 q1 x t1 t2
  go_wp2
  go_loopw [5] (fun i wr => ∃ k : Nat, k ≤ n ∧ i = .int .i64 k ∧ Fr Nothing W wr) (fun i _ => n - (intOf i).toNat)
  case atStart => exact ⟨0, Nat.zero_le _, rfl, HX.out⟩
  case round =>
    obtain ⟨k, hk, rfl, hfr⟩ := hrel
    have KF := Lib.hid hfr
    obtain ⟨c0, c1, _, _⟩ := (HB.out.fr hfr (fun y => y)).two
    clear hfr
    by_cases hlt : k < n
    · go_wp2_with fail
      refine (State_in g b c f n l k _ _ (H0.out.fr0 KF.out) rfl hlt).mono ?_
      rintro e w2 ⟨rfl, hf2⟩
      have KF2 := Lib.hid (KF.out.trans hf2)
      obtain ⟨d0, d1, _, _⟩ := (HB.out.fr KF2.out (fun y => y)).two
      have d2 := (HR0.out.fr0 KF2.out).at_ hlt
      clear hf2
      have t3 : (((byteAt l k : Nat) : Int) != ((byteAt l k : Nat) : Int)) = false := by simp
      generalize byteAt l k = z at *
      go_wp2
      go_roundw
      case rel => exact ⟨k + 1, by omega, by go_num, KF2.out⟩
      case measure => simp [intOf]; omega
    · obtain rfl : k = n := by omega
      go_wp2
      go_loopw [8] (fun i wq => ∃ z : Int, -1 ≤ z ∧ z ≤ 6 ∧ i = .int .i64 z ∧ Fr Nothing W wq) (fun i _ => (6 - intOf i).toNat)
      case atStart => exact ⟨-1, by omega, by omega, rfl, KF.out⟩
      case round =>
        obtain ⟨z, hz1, hz2, rfl, hfq⟩ := hrel
        have KQ := Lib.hid hfq
        obtain ⟨e0, e1, _, _⟩ := (HB.out.fr hfq (fun y => y)).two
        clear hfq
        by_cases hz6 : z < 6
        · go_wp2
          have q0 : ∀ x : In (Later wr), x.w.cell? ⟨B, 0, none⟩ = some (.int .i64 f) := fun x => (HB.out.fr (KQ.out.trans x.h) (fun y => y)).cell 0
          have q1 : ∀ x : In (Later wr), x.w.cell? ⟨B, 1, none⟩ = some (.slice (some ⟨b2, 0, none⟩) k c2) := fun x => (HB.out.fr (KQ.out.trans x.h) (fun y => y)).cell 1
          have t4 : (((numK l z k : Nat) : Int) != ((numK l z k : Nat) : Int)) = false := by simp
          have HCN : Hid (∀ w', BM w' g b c f k l → Calls Tryd.prog 20 #[.pointer (some ⟨g, 0, none⟩), .int .i64 z] w' (Gives w' (.int .i64 (numK l z k : Nat)))) := fun w' hb => by
            have := Number_any g b c f k l z w' hb
            rw [HNUM.out] at this
            exact this
          have HCR := Lib.hid (fun w' (hb : RM w' b2 c2 k l) => rNumber_any f b2 c2 k l z w' hb)
          unfold mv at HCR
          refine wp_region_in (Later wr) ((Fr.refl _ _).drew) (by kernel_rfl) (by kernel_rfl) ?_
          repeat (go_big_quiet_step (first | (go_at_call 20; exact In.later (HCN.out _ (H0.out.fr0 (KQ.out.trans (In.h _))))) | (go_at_call 44; exact In.later (HCR.out _ (HR0.out.fr0 (KQ.out.trans (In.h _)))))))
          refine wpQuiet_nil ?_
          rintro _ ⟨x, rfl⟩
          have KX := Lib.hid (KQ.out.trans x.h)
          generalize x.w = W2 at *
          clear q0 q1 x HCN HCR e0 e1 c0 c1
          go_wp2
          go_roundw
          case rel => exact ⟨z + 1, by omega, by omega, rfl, KX.out⟩
          case measure => simp [intOf]; omega
        · obtain rfl : z = 6 := by omega
          go_wp2
          have hcur : Fr Nothing W wr.drew := KQ.out.drew
          generalize blkK f l 1 2 k k = zs12 at *
          generalize blkK f l 1 3 k k = zs13 at *
          go_region_with (first
            | (go_at_call 15; refine (HU.out _ (H0.out.fr0 ‹_›)).mono ?_; rintro e wN ⟨A1, n1, c1, rfl, r1, hfN, hn1⟩; have hcur := Fr.trans (by assumption) hfN; obtain ⟨p0, p1, _, _⟩ := (HB.out.fr hcur (fun y => y)).two)
            | (go_at_call 14; refine (HO.out _ (H0.out.fr0 ‹_›)).mono ?_; rintro e wN ⟨A1, n1, c1, rfl, r1, hfN, hn1⟩; have hcur := Fr.trans (by assumption) hfN; obtain ⟨p0, p1, _, _⟩ := (HB.out.fr hcur (fun y => y)).two)
            | (go_at_call 45; (first | (with_reducible refine (HL12.out _ (HR0.out.fr0 ‹_›)).mono ?_) | (with_reducible refine (HL13.out _ (HR0.out.fr0 ‹_›)).mono ?_)); rintro e wM ⟨A2, n2, c2, rfl, r2, hfM, hn2⟩; have hcur := Fr.trans (by assumption) hfM; have r1 := r1.fr0 hfM)
            | (go_at_call 19; refine (rSame_eq _ _ _ _ _ _ _ _ _ _ r1 r2 hn1 hn2).mono ?_; rintro e wL ⟨rfl, hfL⟩; have hcur := Fr.trans (by assumption) hfL; obtain ⟨p0, p1, _, _⟩ := (HB.out.fr hcur (fun y => y)).two))
          all_goals
            go_wp2
            go_ret
            exact ⟨rfl, HF0.out.trans ‹_›⟩
end Go.Proofs.YtejajafbopabmaaDoor
