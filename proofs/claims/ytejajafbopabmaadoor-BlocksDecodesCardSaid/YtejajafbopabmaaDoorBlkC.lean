/- The contracts of blocks.Map's change, Commit, Abort, Clone, Equal. -/
import Derived.Test.YtejajafbopabmaaDoorBlkB
import Derived.Test.YtejajafbopabmaaDoorCodecD
import Derived.Deep.RegionWith
namespace Go.Proofs.YtejajafbopabmaaDoor
open Go.RowKit

/-- The first k states changed. -/
def chg (t : UInt8 → UInt8) (l : List UInt8) (k : Nat) : List UInt8 := (l.take k).map t ++ l.drop k
theorem chg_length (t : UInt8 → UInt8) (l : List UInt8) (k : Nat) : (chg t l k).length = l.length := by simp [chg]; omega
theorem chg_at (t : UInt8 → UInt8) (l : List UInt8) (k : Nat) (hk : k < l.length) : byteAt (chg t l k) k = byteAt l k := by
  unfold byteAt chg
  rw [List.getElem?_append_right (by simp; omega)]
  simp [Nat.min_eq_left (Nat.le_of_lt hk)]
theorem chg_next (t : UInt8 → UInt8) (l : List UInt8) (k : Nat) (hk : k < l.length) : (chg t l k).set k (t (UInt8.ofNat (byteAt l k))) = chg t l (k + 1) := by
  have e : UInt8.ofNat (byteAt l k) = l[k] := by unfold byteAt; simp [hk]
  rw [e]
  unfold chg
  have e2 : k - ((l.take k).map t).length = 0 := by simp; omega
  rw [List.set_append_right _ _ (by simp; omega), e2, List.drop_eq_getElem_cons hk, List.set_cons_zero, List.take_succ_eq_append_getElem hk, List.map_append, List.append_assoc]
  rfl
theorem chg_zero (t : UInt8 → UInt8) (l : List UInt8) : chg t l 0 = l := by simp [chg]
theorem chg_all (t : UInt8 → UInt8) (l : List UInt8) : chg t l l.length = l.map t := by simp [chg]

def tabV (t : UInt8 → UInt8) : Array Value := #[.int .u8 ((t 0).toNat : Nat), .int .u8 ((t 1).toNat : Nat), .int .u8 ((t 2).toNat : Nat), .int .u8 ((t 3).toNat : Nat)]
theorem tabV_at (t : UInt8 → UInt8) (x : Nat) (h : x < 4) : (tabV t)[x]? = some (.int .u8 ((t (UInt8.ofNat x)).toNat : Nat)) := by
  rcases x with _ | _ | _ | _ | x
  · rfl
  · rfl
  · rfl
  · rfl
  · omega

set_option maxRecDepth 100000 in
set_option maxHeartbeats 1000000 in
theorem change_any (t : UInt8 → UInt8) (ht : ∀ x : UInt8, x.toNat < 4 → (t x).toNat < 4) (g b c f n : Nat) (l : List UInt8) (w : World) (h : BM w g b c f n l) :
    Calls Tryd.prog 42 #[.pointer (some ⟨g, 0, none⟩), .agg (tabV t)] w (GivesT (One b) w (.int .i64 0) (fun w' => BM w' g b c f n (l.map t))) := by
  have HB := Lib.hid h
  have HT := Lib.hid ht
  have hn := h.hn
  clear h ht
  unfold tabV
  go_enter Tryd.func42, Tryd.ntmps42
  have HB1 : Hid (BM (w.alloc (.cells (tabV t) 77)) g b c f n (chg t l 0)) := by rw [chg_zero]; exact HB.out.fr0 ((Fr.refl _ _).alloc _)
  have HK1 : Hid (Blk (w.alloc (.cells (tabV t) 77)) w.heap.size 77 (tabV t)) := Blk.new _ _ _
  have HF1 : Hid (Fr (One b) w (w.alloc (.cells (tabV t) 77))) := (Fr.refl _ _).alloc _
  have HG : Hid (w.heap.size ≠ b) := by
    have := World.block_lt_of_cell? w _ (HB.out.at_ (k := 0) HB.out.h1)
    simp only [Hid]
    simp at this
    omega
  have c1 : w.cell? ⟨g, 1, none⟩ = some (.slice (some ⟨b, 0, none⟩) n c) := HB.out.c1
  have c1' : (w.alloc (.cells #[.int .u8 ((t 0).toNat : Nat), .int .u8 ((t 1).toNat : Nat), .int .u8 ((t 2).toNat : Nat), .int .u8 ((t 3).toNat : Nat)] 77)).cell? ⟨g, 1, none⟩ = some (.slice (some ⟨b, 0, none⟩) n c) := HB1.out.c1
  go_wp2
  unfold tabV at HB1 HK1 HF1
  generalize w.heap.size = B at *
  go_loopw [14] (fun i wr => ∃ k : Nat, k ≤ n ∧ i = .int .i64 k ∧ BM wr g b c f n (chg t l k) ∧ Fr (One b) w wr ∧ Blk wr B 77 (tabV t)) (fun i _ => n - (intOf i).toNat)
  case atStart => exact ⟨0, Nat.zero_le _, rfl, HB1.out, HF1.out, HK1.out⟩
  case round =>
    obtain ⟨k, hk, rfl, hb, hfr, hkk⟩ := hrel
    have KB := Lib.hid hb
    have KF := Lib.hid hfr
    have KK := Lib.hid hkk
    clear hb hfr hkk c1 c1' HB1 HK1 HF1
    have hlen := HB.out.len
    by_cases hlt : k < n
    · have d1 : wr.cell? ⟨g, 1, none⟩ = some (.slice (some ⟨b, 0, none⟩) n c) := KB.out.c1
      have d2 : wr.drew.cell? ⟨g, 1, none⟩ = some (.slice (some ⟨b, 0, none⟩) n c) := KB.out.c1
      have d3 : wr.cell? ⟨b, k, none⟩ = some (.int .u8 (byteAt (chg t l k) k : Nat)) := KB.out.at_ hlt
      have d4 : wr.drew.cell? ⟨b, k, none⟩ = some (.int .u8 (byteAt (chg t l k) k : Nat)) := KB.out.at_ hlt
      have d5 : wr.drew.frozen? ⟨b, k, none⟩ = false := KB.out.free k
      rw [chg_at t l k (by omega)] at d3 d4
      have hb4 := byteAt_lt HB.out.o4 k
      have d6 : wr.drew.cell? ⟨B, byteAt l k, none⟩ = some (.int .u8 ((t (UInt8.ofNat (byteAt l k))).toNat : Nat)) := (KK.out.cell _).trans (tabV_at t _ hb4)
      have HN := Lib.hid (chg_next t l k (by omega))
      have hu : (t (UInt8.ofNat (byteAt l k))).toNat < 4 := HT.out _ (by simp; omega)
      have HU := Lib.hid hu
      have q1 : (k : Int) < (n : Int) := by omega
      have q2 : ((byteAt l k : Nat) : Int) < 4 := by omega
      clear hu hlen
      generalize t (UInt8.ofNat (byteAt l k)) = u at *
      generalize byteAt l k = x at *
      go_wp2
      go_still_tail 9, (by kernel_rfl)
      change wpList _ _ _ _ _ wr.drew
      go_wp2
      go_roundw
      case rel =>
        refine ⟨k + 1, by omega, by go_num, ?_, KF.out.drew.trans fr_set, ?_⟩
        · rw [← HN.out]
          exact (KB.out.fr0 ((Fr.refl _ _).drew)).set k u HU.out
        · exact (KK.out.drew).far (p := ⟨b, k, none⟩) HG.out _
      case measure => simp [intOf]; omega
    · obtain rfl : k = n := by omega
      go_wp2
      go_ret
      refine ⟨rfl, KF.out, ?_⟩
      have := KB.out
      rw [← hlen, chg_all, hlen] at this
      exact this

set_option maxHeartbeats 1000000 in
theorem change_nil (t : UInt8 → UInt8) (w : World) :
    Calls Tryd.prog 42 #[.pointer none, .agg (tabV t)] w (Gives w (.int .i64 1)) := by
  unfold tabV
  go_enter Tryd.func42, Tryd.ntmps42
  go_wp2
  go_ret
  exact ⟨rfl, (Fr.refl _ _).alloc _⟩

/-- A table of four in block G. -/
def TabAt (G : Nat) (t : UInt8 → UInt8) (w : World) : Prop := ∀ i, i < 4 → w.cell? ⟨G, i, none⟩ = (tabV t)[i]?
theorem TabAt.fr {G : Nat} {t : UInt8 → UInt8} {w w' : World} {T : Nat → Prop} (h : TabAt G t w) (hf : Fr T w w') (hT : ¬ T G) : TabAt G t w' := fun i hi => by
  have e := h i hi
  rw [tabV_at t i hi] at e ⊢
  exact hf.cellSome e hT
abbrev TabC (w : World) : Prop := TabAt 1 tabC w
abbrev TabA (w : World) : Prop := TabAt 0 tabA w

set_option maxHeartbeats 1000000 in
theorem Commit_any (g b c f n : Nat) (l : List UInt8) (w : World) (h : BM w g b c f n l) (ht : TabC w) :
    Calls Tryd.prog 18 #[.pointer (some ⟨g, 0, none⟩)] w (GivesT (One b) w (.int .i64 0) (fun w' => BM w' g b c f n (l.map tabC))) := by
  have t0 : w.cell? ⟨1, 0, none⟩ = some (.int .u8 0) := ht 0 (by decide)
  have t1 : w.cell? ⟨1, 1, none⟩ = some (.int .u8 1) := ht 1 (by decide)
  have t2 : w.cell? ⟨1, 2, none⟩ = some (.int .u8 1) := ht 2 (by decide)
  have t3 : w.cell? ⟨1, 3, none⟩ = some (.int .u8 0) := ht 3 (by decide)
  have HB := Lib.hid h
  clear h ht
  go_enter Tryd.func18, Tryd.ntmps18
  go_wp2_with fail
  refine (change_any tabC tabC_ok g b c f n l _ HB.out).mono ?_
  rintro e w1 ⟨rfl, hf1, hb1⟩
  go_wp2
  go_ret
  exact ⟨rfl, hf1, hb1⟩

set_option maxHeartbeats 1000000 in
theorem Abort_any (g b c f n : Nat) (l : List UInt8) (w : World) (h : BM w g b c f n l) (ht : TabA w) :
    Calls Tryd.prog 17 #[.pointer (some ⟨g, 0, none⟩)] w (GivesT (One b) w (.int .i64 0) (fun w' => BM w' g b c f n (l.map tabA))) := by
  have t0 : w.cell? ⟨0, 0, none⟩ = some (.int .u8 0) := ht 0 (by decide)
  have t1 : w.cell? ⟨0, 1, none⟩ = some (.int .u8 1) := ht 1 (by decide)
  have t2 : w.cell? ⟨0, 2, none⟩ = some (.int .u8 0) := ht 2 (by decide)
  have t3 : w.cell? ⟨0, 3, none⟩ = some (.int .u8 1) := ht 3 (by decide)
  have HB := Lib.hid h
  clear h ht
  go_enter Tryd.func17, Tryd.ntmps17
  go_wp2_with fail
  refine (change_any tabA tabA_ok g b c f n l _ HB.out).mono ?_
  rintro e w1 ⟨rfl, hf1, hb1⟩
  go_wp2
  go_ret
  exact ⟨rfl, hf1, hb1⟩

set_option maxHeartbeats 1000000 in
theorem Commit_nil (w : World) (ht : TabC w) : Calls Tryd.prog 18 #[.pointer none] w (Gives w (.int .i64 1)) := by
  have t0 : w.cell? ⟨1, 0, none⟩ = some (.int .u8 0) := ht 0 (by decide)
  have t1 : w.cell? ⟨1, 1, none⟩ = some (.int .u8 1) := ht 1 (by decide)
  have t2 : w.cell? ⟨1, 2, none⟩ = some (.int .u8 1) := ht 2 (by decide)
  have t3 : w.cell? ⟨1, 3, none⟩ = some (.int .u8 0) := ht 3 (by decide)
  clear ht
  go_enter Tryd.func18, Tryd.ntmps18
  go_wp2_with fail
  refine (change_nil tabC _).mono ?_
  rintro e w1 ⟨rfl, hf1⟩
  go_wp2
  go_ret
  exact ⟨rfl, hf1⟩

set_option maxHeartbeats 1000000 in
theorem Abort_nil (w : World) (ht : TabA w) : Calls Tryd.prog 17 #[.pointer none] w (Gives w (.int .i64 1)) := by
  have t0 : w.cell? ⟨0, 0, none⟩ = some (.int .u8 0) := ht 0 (by decide)
  have t1 : w.cell? ⟨0, 1, none⟩ = some (.int .u8 1) := ht 1 (by decide)
  have t2 : w.cell? ⟨0, 2, none⟩ = some (.int .u8 0) := ht 2 (by decide)
  have t3 : w.cell? ⟨0, 3, none⟩ = some (.int .u8 1) := ht 3 (by decide)
  clear ht
  go_enter Tryd.func17, Tryd.ntmps17
  go_wp2_with fail
  refine (change_nil tabA _).mono ?_
  rintro e w1 ⟨rfl, hf1⟩
  go_wp2
  go_ret
  exact ⟨rfl, hf1⟩

def NewPtr (w : World) (f n : Nat) (l : List UInt8) (e : Ending) (w' : World) : Prop :=
  ∃ g b c, e = .returned (.pointer (some ⟨g, 0, none⟩)) ∧ BM w' g b c f n l ∧ Fr Nothing w w' ∧ w.heap.size ≤ g ∧ w.heap.size ≤ b

theorem BM.rd {w : World} {g b c f n : Nat} {l : List UInt8} (h : BM w g b c f n l) : Rd w (Rows1 (.slice (some ⟨b, 0, none⟩) n c)) 1 (some ⟨b, 0, none⟩) n (l.map bv) := Rd.of_own h.own
theorem BM.big {w : World} {g b c f n : Nat} {l : List UInt8} (h : BM w g b c f n l) : 2 < w.heap.size := by
  have := World.block_lt_of_cell? w _ (h.at_ (k := 0) h.h1)
  have := h.far
  simp at *
  omega

/-- A row of bytes that is not empty, with its value written out. -/
theorem grewB_form {w w' : World} {v' : Value} {l : List UInt8} {n : Nat} (h : GrewB w (.slice none 0 0) w' v' l) (hl : l.length = n) (hn : 1 ≤ n) :
    ∃ b c, v' = .slice (some ⟨b, 0, none⟩) n c ∧ w.heap.size ≤ b ∧ w'.ownsRow 0 5 1 (.slice (some ⟨b, 0, none⟩) n c) n (l.map bv) := by
  subst hl
  obtain ⟨b, c, e, _, _⟩ := h.own.form hn
  subst e
  exact ⟨b, c, rfl, h.new b rfl, h.own⟩

set_option maxHeartbeats 1000000 in
theorem Clone_map (g b c f n : Nat) (l : List UInt8) (w : World) (h : BM w g b c f n l) :
    Calls Tryd.prog 16 #[.pointer (some ⟨g, 0, none⟩)] w (NewPtr w f n l) := by
  have HB := Lib.hid h
  have c0 := h.c0
  have c1 := h.c1
  have hn := h.hn
  clear h
  go_enter Tryd.func16, Tryd.ntmps16
  go_wp2
  go_region_with (go_at_call 41; refine (Clone_any _ _ _ l _ _ (HB.out.rd.fr0 ((Fr.refl _ _).drew)) (by omega)).mono ?_; rintro e w1 ⟨v1, rfl, hg1⟩; obtain ⟨b1, k1, rfl, hb1, ho1⟩ := grewB_form hg1 HB.out.len HB.out.h1; have c2 := (HB.out.fr0 ((Fr.refl _ _).drew.trans hg1.fr0)).c0; have HG1 := Lib.hid hg1; have HO1 := Lib.hid ho1; have HH1 := Lib.hid hb1; clear hg1 ho1 hb1)
  all_goals
    go_wp2
    go_ret
    refine ⟨_, b1, k1, rfl, ⟨Blk.new _ _ _, HO1.out.alloc _, ?_, HB.out.hf, HB.out.h1, HB.out.hn, HB.out.o4⟩, ((Fr.refl _ _).drew.trans HG1.out.fr0).alloc _, HG1.out.fr0.size, HH1.out⟩
    have := HH1.out
    have := HB.out.big
    simp at *
    omega

set_option maxHeartbeats 1000000 in
theorem Clone_nil (w : World) : Calls Tryd.prog 16 #[.pointer none] w (Gives w (.pointer none)) := by
  go_enter Tryd.func16, Tryd.ntmps16
  go_wp2
  go_ret
  exact ⟨rfl, Fr.refl _ _⟩

set_option maxHeartbeats 1000000 in
theorem Equal_any (g b c f n : Nat) (l : List UInt8) (g' b' c' f' n' : Nat) (l' : List UInt8) (w : World) (h : BM w g b c f n l) (h' : BM w g' b' c' f' n' l') :
    Calls Tryd.prog 29 #[.pointer (some ⟨g, 0, none⟩), .pointer (some ⟨g', 0, none⟩)] w (Gives w (.bool (decide (f = f') && decide (l = l')))) := by
  have c0 := h.c0
  have c1 := h.c1
  have d0 := h'.c0
  have d1 := h'.c1
  have HB := Lib.hid h
  have HB' := Lib.hid h'
  clear h h'
  by_cases hf : f = f'
  · subst hf
    have t1 : ((f : Int) == (f : Int)) = true := beq_self_eq_true _
    have E : Hid ((decide (f = f) && decide (l = l')) = (l == l')) := by simp only [Hid, decide_true, Bool.true_and]; rw [Bool.eq_iff_iff]; simp
    go_enter Tryd.func29, Tryd.ntmps29
    go_wp2
    go_quiet ((go_at_call 51; refine Calls.quiet_of_same (Tryd.bytes_Equal_strs _ _ ⟨l.toArray⟩ ⟨l'.toArray⟩ _ (run_strT _ _ _ _ _ l (HB.out.rd.fr0 ((Fr.refl _ _).drewN _))) (run_strT _ _ _ _ _ l' (HB'.out.rd.fr0 ((Fr.refl _ _).drewN _))))))
    go_wp2
    go_ret
    exact ⟨by rw [E.out]; simp [go_sem], (Fr.refl _ _).drewN _⟩
  · have t1 : ((f : Int) == (f' : Int)) = false := beq_eq_false_iff_ne.2 (by omega)
    have E : Hid ((decide (f = f') && decide (l = l')) = false) := by simp [Hid, hf]
    clear hf
    go_enter Tryd.func29, Tryd.ntmps29
    go_wp2
    go_quiet (fail)
    go_wp2
    go_ret
    exact ⟨by rw [E.out]; rfl, (Fr.refl _ _).drewN _⟩

set_option maxHeartbeats 1000000 in
theorem Equal_nil0 (w : World) : Calls Tryd.prog 29 #[.pointer none, .pointer none] w (Gives w (.bool true)) := by
  go_enter Tryd.func29, Tryd.ntmps29
  go_wp2
  go_ret
  exact ⟨rfl, Fr.refl _ _⟩

set_option maxHeartbeats 1000000 in
theorem Equal_nil1 (p : Addr) (w : World) : Calls Tryd.prog 29 #[.pointer none, .pointer (some p)] w (Gives w (.bool false)) := by
  go_enter Tryd.func29, Tryd.ntmps29
  go_wp2
  go_ret
  exact ⟨rfl, Fr.refl _ _⟩

set_option maxHeartbeats 1000000 in
theorem Equal_nil2 (p : Addr) (w : World) : Calls Tryd.prog 29 #[.pointer (some p), .pointer none] w (Gives w (.bool false)) := by
  go_enter Tryd.func29, Tryd.ntmps29
  go_wp2
  go_ret
  exact ⟨rfl, Fr.refl _ _⟩
end Go.Proofs.YtejajafbopabmaaDoor
