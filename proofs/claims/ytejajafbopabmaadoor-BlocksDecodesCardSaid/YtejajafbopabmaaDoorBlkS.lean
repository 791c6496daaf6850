/- The reference's maps of blocks: contracts of State, Number, Take, Give, change, Commit, Abort. -/
import Derived.Test.YtejajafbopabmaaDoorBlkR
namespace Go.Proofs.YtejajafbopabmaaDoor
open Go.RowKit

theorem RM.ne_blk {w : World} {b c n : Nat} {l : List UInt8} (h : RM w b c n l) {R : Nat} {t : TypeId} {cs : Array Value} (hB : Blk w R t cs) (ht : 3 ≠ t) : b ≠ R := fun e => by
  have := own_blk_ne h.own hB ht
  simp [Value.ownBlock, e] at this

theorem ret_M {w w2 : World} {f b c n R : Nat} {l : List UInt8} {x y : Value} (hB : Blk w2 R 28 #[x, y]) (hR : RM w2 b c n l) (hF : Fr Nothing w w2) (hR0 : w.heap.size ≤ R) :
    let wF := (w2.setCell ⟨R, 0, none⟩ (.int .i64 f)).setCell ⟨R, 1, none⟩ (.slice (some ⟨b, 0, none⟩) n c)
    (wF.cell? ⟨R, 0, none⟩ = some (.int .i64 f) ∧ wF.cell? ⟨R, 1, none⟩ = some (.slice (some ⟨b, 0, none⟩) n c)) ∧ RM wF b c n l ∧ Fr Nothing w wF := by
  have h2 := hB.set2 (.int .i64 f) (.slice (some ⟨b, 0, none⟩) n c)
  exact ⟨⟨h2.cell 0, h2.cell 1⟩, hR.fr (fr_one2 _ R _ _) (hR.ne_blk hB (by decide)), hF.set2 (fun h => by omega) _ _⟩

theorem two_new (w : World) (a b : Value) :
    Blk ((w.alloc (.cells #[a, b] 28)).alloc (.cells #[.int .i64 0, .slice none 0 0] 28)) w.heap.size 28 #[a, b] ∧
    Blk ((w.alloc (.cells #[a, b] 28)).alloc (.cells #[.int .i64 0, .slice none 0 0] 28)) (w.heap.size + 1) 28 #[.int .i64 0, .slice none 0 0] ∧
    Fr Nothing w ((w.alloc (.cells #[a, b] 28)).alloc (.cells #[.int .i64 0, .slice none 0 0] 28)) := by
  refine ⟨(Blk.new w _ _).alloc _, ?_, ((Fr.refl _ _).alloc _).alloc _⟩
  have := Blk.new (w.alloc (.cells #[a, b] 28)) 28 #[.int .i64 0, .slice none 0 0]
  rw [World.size_alloc] at this
  exact this

theorem Blk.two {w : World} {g : Nat} {t : TypeId} {a b : Value} (h : Blk w g t #[a, b]) : w.cell? ⟨g, 0, none⟩ = some a ∧ w.cell? ⟨g, 1, none⟩ = some b ∧ w.frozen? ⟨g, 0, none⟩ = false ∧ w.frozen? ⟨g, 1, none⟩ = false := ⟨h.cell 0, h.cell 1, h.frozen 0, h.frozen 1⟩

set_option maxHeartbeats 1000000 in
theorem rState_in (f b c n : Nat) (l : List UInt8) (i : Nat) (k : Int) (w : World) (h : RM w b c n l) (hk : k = (f : Int) + (i : Int)) (hi : i < n) (hf : f ≤ 1073741824) :
    Calls Tryd.prog 71 #[mv f b c n, .int .i64 k] w (Gives w (.tuple #[.int .i64 (byteAt l i : Nat), .int .i64 0])) := by
  subst hk
  have hn := h.hn
  have HR := Lib.hid h
  have hB := Blk.new w 28 #[.int .i64 f, .slice (some ⟨b, 0, none⟩) n c]
  have HB := Lib.hid hB
  clear h hB
  have HC := Lib.hid (rhas_any f b c n ((f : Int) + (i : Int)) (w.alloc (.cells #[.int .i64 f, .slice (some ⟨b, 0, none⟩) n c] 28)) hf (by omega) (by omega) hn)
  unfold mv at HC ⊢
  go_enter Tryd.func71, Tryd.ntmps71
  go_wp2_with fail
  refine HC.out.mono ?_
  rintro e w1 ⟨rfl, hf1⟩
  rw [isIn_yes (by omega) (by omega)]
  have HF := Lib.hid hf1
  obtain ⟨c0, c1, _, _⟩ := (HB.out.fr hf1 (fun x => x)).two
  have c2 := ((HR.out.fr0 ((Fr.refl _ _).alloc _)).fr0 hf1).at_ hi
  clear hf1 HC
  generalize byteAt l i = x at *
  have hi2 : (i : Int) < (n : Int) := by omega
  go_wp2
  go_ret2
  exact ⟨rfl, ((Fr.refl _ _).alloc _).trans HF.out⟩

set_option maxHeartbeats 1000000 in
theorem rState_out (f b c n : Nat) (k : Int) (w : World) (hk : isIn f n k = false) (hf : f ≤ 1073741824) (hn : n ≤ 65536) (hk1 : -9223372036854775808 ≤ k) (hk2 : k ≤ 9223372036854775807) :
    Calls Tryd.prog 71 #[mv f b c n, .int .i64 k] w (Gives w (.tuple #[.int .i64 0, .int .i64 2])) := by
  have HC := Lib.hid (rhas_any f b c n k (w.alloc (.cells #[.int .i64 f, .slice (some ⟨b, 0, none⟩) n c] 28)) hf hk1 hk2 hn)
  unfold mv at HC ⊢
  go_enter Tryd.func71, Tryd.ntmps71
  go_wp2_with fail
  refine HC.out.mono ?_
  rintro e w1 ⟨rfl, hf1⟩
  rw [hk]
  have HF := Lib.hid hf1
  clear hf1 HC
  go_wp2
  go_ret2
  exact ⟨rfl, ((Fr.refl _ _).alloc _).trans HF.out⟩

/-- How many of the first k are in a state. -/
def numK (l : List UInt8) (s : Int) : Nat → Nat
  | 0 => 0
  | k + 1 => if ((byteAt l k : Nat) : Int) = s then numK l s k + 1 else numK l s k
theorem numK_le (l : List UInt8) (s : Int) : ∀ k, numK l s k ≤ k
  | 0 => Nat.le_refl _
  | k + 1 => by
    have := numK_le l s k
    unfold numK
    split <;> omega

set_option maxRecDepth 100000 in
set_option maxHeartbeats 1000000 in
theorem rNumber_any (f b c n : Nat) (l : List UInt8) (s : Int) (w : World) (h : RM w b c n l) :
    Calls Tryd.prog 44 #[mv f b c n, .int .i64 s] w (Gives w (.int .i64 (numK l s n : Nat))) := by
  have hn := h.hn
  have HR := Lib.hid (h.fr0 ((Fr.refl _ w).alloc (.cells #[.int .i64 f, .slice (some ⟨b, 0, none⟩) n c] 28)))
  clear h
  unfold mv
  go_enter Tryd.func44, Tryd.ntmps44
  go_wp2
  go_loop [5, 6] (fun t i => ∃ k : Nat, k ≤ n ∧ i = .int .i64 k ∧ t = .int .i64 (numK l s k : Nat)) (fun _ i => n - (intOf i).toNat)
  case atStart => exact ⟨0, Nat.zero_le _, rfl, rfl⟩
  case round =>
    obtain ⟨k, hk, rfl, rfl⟩ := hrel
    have hle := numK_le l s k
    by_cases hlt : k < n
    · have c2 := HR.out.at_ hlt
      by_cases hs : ((byteAt l k : Nat) : Int) = s
      · have e : Hid (numK l s (k + 1) = numK l s k + 1) := by simp [Hid, numK, hs]
        have t1 : (((byteAt l k : Nat) : Int) == s) = true := beq_iff_eq.2 hs
        clear hs
        generalize byteAt l k = x at *
        generalize numK l s k = y at *
        go_wp2
        go_round
        case rel => exact ⟨k + 1, by omega, by go_num, by rw [e.out]; go_num⟩
        case measure => simp [intOf]; omega
      · have e : Hid (numK l s (k + 1) = numK l s k) := by simp [Hid, numK, hs]
        have t1 : (((byteAt l k : Nat) : Int) == s) = false := beq_eq_false_iff_ne.2 hs
        clear hs
        generalize byteAt l k = x at *
        generalize numK l s k = y at *
        go_wp2
        go_round
        case rel => exact ⟨k + 1, by omega, by go_num, by rw [e.out]⟩
        case measure => simp [intOf]; omega
    · obtain rfl : k = n := by omega
      go_wp2
      go_ret
      exact ⟨rfl, (Fr.refl _ _).alloc _⟩

theorem freeI_at : ∀ (l : List UInt8) (k : Nat), (∀ j, j < k → byteAt l j ≠ 0) → k < l.length → byteAt l k = 0 → freeI l = k
  | [], k, _, h, _ => by simp at h
  | x :: l, 0, _, _, h => by
    have : x = 0 := by
      have h' : x.toNat = 0 := by simpa [byteAt] using h
      exact UInt8.toNat.inj (by simpa using h')
    subst this
    rfl
  | x :: l, k + 1, ha, hl, h => by
    have hx : x ≠ 0 := fun e => ha 0 (by omega) (by simp [byteAt, e])
    have ih := freeI_at l k (fun j hj => by have := ha (j + 1) (by omega); simpa [byteAt] using this) (by simpa using hl) (by simpa [byteAt] using h)
    unfold freeI at ih ⊢
    simp only [Lib.indexByte]
    rw [if_neg (by simpa using hx), ih, if_neg (by simp)]
    simp
theorem freeI_none : ∀ (l : List UInt8), (∀ j, j < l.length → byteAt l j ≠ 0) → freeI l = -1
  | [], _ => rfl
  | x :: l, ha => by
    have hx : x ≠ 0 := fun e => ha 0 (by simp) (by simp [byteAt, e])
    have ih := freeI_none l (fun j hj => by have := ha (j + 1) (by simpa using hj); simpa [byteAt] using this)
    unfold freeI at ih ⊢
    simp only [Lib.indexByte]
    rw [if_neg (by simpa using hx), ih]
    rfl

def mTake (f : Nat) (l : List UInt8) (v : Value) : Value := .tuple #[v, .int .i64 (takeB f l), .int .i64 (takeE l)]

set_option maxRecDepth 100000 in
set_option maxHeartbeats 1000000 in
theorem rTake_any (f b c n : Nat) (l : List UInt8) (w : World) (h : RM w b c n l) (hf : f ≤ 1073741824) :
    Calls Tryd.prog 46 #[mv f b c n] w (SomeM w f n (takeL l) (mTake f l)) := by
  have hn := h.hn
  have hlen := h.len
  have HT := Lib.hid (two_new w (.int .i64 f) (.slice (some ⟨b, 0, none⟩) n c))
  have HR := Lib.hid (h.fr0 HT.out.2.2)
  clear h
  unfold mv
  go_enter Tryd.func46, Tryd.ntmps46
  go_wp2
  generalize ((w.alloc (.cells #[.int .i64 f, .slice (some ⟨b, 0, none⟩) n c] 28)).alloc (.cells #[.int .i64 0, .slice none 0 0] 28)) = W at *
  obtain ⟨c0, c1, _, _⟩ := HT.out.1.two
  obtain ⟨g0, g1, g2, g3⟩ := HT.out.2.1.two
  go_loop [5] (fun i => ∃ k : Nat, k ≤ n ∧ i = .int .i64 k ∧ Hid (∀ j, j < k → byteAt l j ≠ 0)) (fun i => n - (intOf i).toNat)
  case atStart => exact ⟨0, Nat.zero_le _, rfl, fun j hj => by omega⟩
  case round =>
    obtain ⟨k, hk, rfl, HZ⟩ := hrel
    by_cases hlt : k < n
    · have c2 := HR.out.at_ hlt
      by_cases hz : byteAt l k = 0
      · have e1 := freeI_at l k HZ.out (by omega) hz
        have E : Hid (takeL l = l.set k 2 ∧ takeB f l = (f : Int) + (k : Int) ∧ takeE l = 0) := by
          simp only [Hid]
          unfold takeL takeB takeE
          rw [e1]
          exact ⟨by rw [if_pos (by omega)]; simp, by rw [if_pos (by omega)], by rw [if_pos (by omega)]⟩
        rw [hz] at c2
        have HW := Lib.hid (fun w' (hr : RM w' b c n l) => with_any f b c n l k ((f : Int) + (k : Int)) 2 w' hr rfl hlt hf)
        unfold mv at HW
        clear hz e1 hlen
        go_wp2
        have a1 : IntKind.i64.wrap ((f : Int) + (k : Int)) = (f : Int) + (k : Int) := IntWalk.i64_in _ (by omega)
        go_region_with (go_at_call 57; refine (HW.out _ (HR.out.fr0 ((Fr.refl _ _).drew))).mono ?_; rintro e w1 ⟨b2, k2, rfl, hr2, hf2⟩; obtain ⟨d0, d1, _, _⟩ := ((HT.out.1.drew).fr hf2 (fun x => x)).two; obtain ⟨j0, j1, j2, j3⟩ := ((HT.out.2.1.drew).fr hf2 (fun x => x)).two; have HR2 := Lib.hid hr2; have HF2 := Lib.hid hf2; clear hr2 hf2; unfold mv)
        all_goals
          go_wp2
          obtain ⟨⟨m0, m1⟩, q2, q3⟩ := ret_M (f := f) ((HT.out.2.1.drew).fr HF2.out (fun x => x)) HR2.out ((HT.out.2.2.drew).trans HF2.out) (Nat.le_succ _)
          refine bodyPost_ret (v := mTake f l (mv f b2 k2 n)) (by simp [results, Tryd.results46, go_sem, mTake, mv, m0, m1, E.out.2.1, E.out.2.2]) rfl ⟨b2, k2, rfl, by rw [E.out.1]; exact q2, q3⟩
      · have t1 : (((byteAt l k : Nat) : Int) == 0) = false := beq_eq_false_iff_ne.2 (by omega)
        have HZ2 : Hid (∀ j, j < k + 1 → byteAt l j ≠ 0) := fun j hj => by
          rcases Nat.lt_or_ge j k with h | h
          · exact HZ.out j h
          · obtain rfl : j = k := by omega
            exact hz
        clear hz
        generalize byteAt l k = x at *
        go_wp2
        go_round
        case rel => exact ⟨k + 1, by omega, by go_num, HZ2⟩
        case measure => simp [intOf]; omega
    · obtain rfl : k = n := by omega
      have e1 := freeI_none l (fun j hj => HZ.out j (by omega))
      have E : Hid (takeL l = l ∧ takeB f l = 0 ∧ takeE l = 26) := by
        simp only [Hid]
        unfold takeL takeB takeE
        rw [e1]
        exact ⟨rfl, rfl, rfl⟩
      clear e1 hlen
      go_wp2
      obtain ⟨⟨m0, m1⟩, q2, q3⟩ := ret_M (f := f) HT.out.2.1 HR.out HT.out.2.2 (Nat.le_succ _)
      refine bodyPost_ret (v := mTake f l (mv f b c k)) (by simp [results, Tryd.results46, go_sem, mTake, mv, m0, m1, E.out.2.1, E.out.2.2]) rfl ⟨b, c, rfl, by rw [E.out.1]; exact q2, q3⟩
end Go.Proofs.YtejajafbopabmaaDoor
