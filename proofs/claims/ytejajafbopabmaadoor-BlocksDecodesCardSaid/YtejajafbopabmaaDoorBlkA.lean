/- A map of blocks in memory, and the contracts of blocks.New, has, State, First, Count. -/
import Derived.Test.YtejajafbopabmaaDoorCodecB
import Derived.Test.YtejajafbopabmaaDoorBlkP
import Derived.Deep.QuietTactic
import Derived.BigQuiet
namespace Go.Proofs.YtejajafbopabmaaDoor
open Go.RowKit

theorem ret_int {k : IntKind} {a b : Int} (h : a = b) : Ending.returned (.int k a) = .returned (.int k b) := by rw [h]

/-- Block g is a map: its first block f, its n states l in block b. -/
structure BM (w : World) (g b c f n : Nat) (l : List UInt8) : Prop where
  blk : Blk w g 74 #[.int .i64 f, .slice (some ⟨b, 0, none⟩) n c]
  own : w.ownsRow 0 5 1 (.slice (some ⟨b, 0, none⟩) n c) n (l.map bv)
  far : 2 ≤ b
  hf : f ≤ 1073741824
  h1 : 1 ≤ n
  hn : n ≤ 65536
  o4 : ok4 l

/-- It returns v and turns no old block. -/
def Gives (w : World) (v : Value) (e : Ending) (w' : World) : Prop := e = .returned v ∧ Fr Nothing w w'
/-- It returns v; of the old blocks only those of T turn; Q holds behind it. -/
def GivesT (T : Nat → Prop) (w : World) (v : Value) (Q : World → Prop) (e : Ending) (w' : World) : Prop := e = .returned v ∧ Fr T w w' ∧ Q w'
def One (b : Nat) : Nat → Prop := fun k => k = b

section
variable {w w' : World} {g b c f n : Nat} {l : List UInt8} {T : Nat → Prop}
theorem BM.len (h : BM w g b c f n l) : l.length = n := by have := h.own.1; simpa using this
theorem BM.fr (h : BM w g b c f n l) (hf : Fr T w w') (hg : ¬ T g) (hb : ¬ T b) : BM w' g b c f n l :=
  ⟨h.blk.fr hf hg, own_fr h.own hf (fun k hk => by simp [Value.ownBlock] at hk; subst hk; exact hb), h.far, h.hf, h.h1, h.hn, h.o4⟩
theorem BM.fr0 (h : BM w g b c f n l) (hf : Fr Nothing w w') : BM w' g b c f n l := h.fr hf (fun x => x) (fun x => x)
theorem BM.c0 (h : BM w g b c f n l) : w.cell? ⟨g, 0, none⟩ = some (.int .i64 f) := h.blk.cell 0
theorem BM.c1 (h : BM w g b c f n l) : w.cell? ⟨g, 1, none⟩ = some (.slice (some ⟨b, 0, none⟩) n c) := h.blk.cell 1
theorem BM.at_ (h : BM w g b c f n l) {k : Nat} (hk : k < n) : w.cell? ⟨b, k, none⟩ = some (.int .u8 (byteAt l k : Nat)) := by
  rw [h.own.cellAt k (by omega), List.getElem?_map]
  have : k < l.length := by rw [h.len]; exact hk
  simp [byteAt, bv, this]
theorem BM.free (h : BM w g b c f n l) (k : Nat) : w.frozen? ⟨b, k, none⟩ = false := h.own.frozenAt k
theorem BM.ne (h : BM w g b c f n l) : g ≠ b := fun e => by
  have := own_blk_ne h.own h.blk (by decide)
  simp [Value.ownBlock, e] at this
theorem BM.set (h : BM w g b c f n l) (k : Nat) (u : UInt8) (hu : u.toNat < 4) : BM (w.setCell ⟨b, k, none⟩ (.int .u8 (u.toNat : Nat))) g b c f n (l.set k u) := by
  refine ⟨h.blk.far h.ne _, ?_, h.far, h.hf, h.h1, h.hn, ok4_set h.o4 k u hu⟩
  have := (h.own.stored k (bv u)).1
  rw [List.map_set]
  exact this
theorem fr_set {b k : Nat} {u : Value} : Fr (One b) w (w.setCell ⟨b, k, none⟩ u) :=
  (Fr.refl (One b) w).setCell (p := ⟨b, k, none⟩) (fun _ => rfl) u
end

theorem isIn_lo {f n : Nat} {b : Int} (h : b < (f : Int)) : isIn f n b = false := by unfold isIn; simp; omega
theorem isIn_hi {f n : Nat} {b : Int} (h : (f : Int) + n ≤ b) : isIn f n b = false := by unfold isIn; simp; omega
theorem isIn_yes {f n : Nat} {b : Int} (h : (f : Int) ≤ b) (h2 : b < (f : Int) + n) : isIn f n b = true := by unfold isIn; simp; omega

set_option maxHeartbeats 1000000 in
theorem has_any (g b c f n : Nat) (l : List UInt8) (k : Int) (w : World) (h : BM w g b c f n l) :
    Calls Tryd.prog 50 #[.pointer (some ⟨g, 0, none⟩), .int .i64 k] w (Gives w (.bool (isIn f n k))) := by
  have c0 := h.c0
  have c1 := h.c1
  have h1 := h.hf
  have h2 := h.hn
  clear h
  have a1 : IntKind.i64.wrap ((f : Int) + (n : Int)) = (f : Int) + (n : Int) := IntWalk.i64_in _ (by omega)
  by_cases hlo : (f : Int) ≤ k
  · have d1 : decide ((f : Int) ≤ k) = true := by simpa using hlo
    by_cases hhi : k < (f : Int) + n
    · have d2 : decide (k < (f : Int) + (n : Int)) = true := by simpa using hhi
      have e := isIn_yes hlo hhi
      rw [e]
      clear e hlo hhi
      go_enter Tryd.func50, Tryd.ntmps50
      go_wp2
      go_quiet (fail)
      go_wp2
      go_ret
      exact ⟨rfl, (Fr.refl _ _).drewN _⟩
    · have d2 : decide (k < (f : Int) + (n : Int)) = false := by simpa using hhi
      have e := isIn_hi (f := f) (n := n) (b := k) (by omega)
      rw [e]
      clear e hlo hhi
      go_enter Tryd.func50, Tryd.ntmps50
      go_wp2
      go_quiet (fail)
      go_wp2
      go_ret
      exact ⟨rfl, (Fr.refl _ _).drewN _⟩
  · have d1 : decide ((f : Int) ≤ k) = false := by simpa using hlo
    rw [isIn_lo (by omega)]
    clear hlo
    go_enter Tryd.func50, Tryd.ntmps50
    go_wp2
    go_quiet (fail)
    go_wp2
    go_ret
    exact ⟨rfl, (Fr.refl _ _).drewN _⟩

set_option maxHeartbeats 1000000 in
theorem State_in (g b c f n : Nat) (l : List UInt8) (i : Nat) (k : Int) (w : World) (h : BM w g b c f n l) (hk : k = (f : Int) + (i : Int)) (hi : i < n) :
    Calls Tryd.prog 28 #[.pointer (some ⟨g, 0, none⟩), .int .i64 k] w (Gives w (.tuple #[.int .i64 (byteAt l i : Nat), .int .i64 0])) := by
  subst hk
  have HB := Lib.hid h
  have h1 := h.hf
  have h2 := h.hn
  clear h
  go_enter Tryd.func28, Tryd.ntmps28
  go_wp2_with fail
  refine (has_any g b c f n l _ _ HB.out).mono ?_
  rintro e w1 ⟨rfl, hf1⟩
  rw [isIn_yes (by omega) (by omega)]
  have HF := Lib.hid hf1
  have HB1 := Lib.hid (HB.out.fr0 hf1)
  have c0 := HB1.out.c0
  have c1 := HB1.out.c1
  have c2 := HB1.out.at_ hi
  have a1 : IntKind.i64.wrap ((f : Int) + (i : Int) - (f : Int)) = (i : Int) := (IntWalk.i64_in _ (by omega)).trans (by omega)
  have a2 : (i : Int) < (n : Int) := by omega
  have hb4 := byteAt_lt HB.out.o4 i
  have a3 : IntKind.i64.wrap ((byteAt l i : Nat) : Int) = ((byteAt l i : Nat) : Int) := IntWalk.i64_in _ (by omega)
  clear hf1 HB HB1
  generalize byteAt l i = x at *
  go_wp2
  go_quiet (fail)
  go_wp2
  go_ret2
  exact ⟨rfl, HF.out.drewN _⟩

set_option maxHeartbeats 1000000 in
theorem State_out (g b c f n : Nat) (l : List UInt8) (k : Int) (w : World) (h : BM w g b c f n l) (hk : isIn f n k = false) :
    Calls Tryd.prog 28 #[.pointer (some ⟨g, 0, none⟩), .int .i64 k] w (Gives w (.tuple #[.int .i64 0, .int .i64 2])) := by
  go_enter Tryd.func28, Tryd.ntmps28
  go_wp2_with fail
  refine (has_any g b c f n l _ _ h).mono ?_
  rintro e w1 ⟨rfl, hf1⟩
  rw [hk]
  clear hk h
  go_wp2
  go_ret2
  exact ⟨rfl, hf1⟩

set_option maxHeartbeats 1000000 in
theorem State_nil (k : Int) (w : World) :
    Calls Tryd.prog 28 #[.pointer none, .int .i64 k] w (Gives w (.tuple #[.int .i64 0, .int .i64 1])) := by
  go_enter Tryd.func28, Tryd.ntmps28
  go_wp2
  go_ret2
  exact ⟨rfl, Fr.refl _ _⟩

theorem stAt_in {f n i : Nat} {l : List UInt8} {k : Int} (hn : l.length = n) (hk : k = (f : Int) + (i : Int)) (hi : i < n) : stAt f l k = byteAt l i ∧ stErr f l k = 0 := by
  unfold stAt stErr
  rw [isIn_yes (by omega) (by omega)]
  rw [show (k - (f : Int)).toNat = i by omega]
  exact ⟨rfl, rfl⟩
theorem in_cases (f n : Nat) (k : Int) : isIn f n k = false ∨ ∃ i : Nat, k = (f : Int) + (i : Int) ∧ i < n := by
  by_cases h : (f : Int) ≤ k ∧ k < (f : Int) + n
  · exact .inr ⟨(k - f).toNat, by omega, by omega⟩
  · exact .inl (by unfold isIn; simp; omega)

theorem State_any (g b c f n : Nat) (l : List UInt8) (k : Int) (w : World) (h : BM w g b c f n l) :
    Calls Tryd.prog 28 #[.pointer (some ⟨g, 0, none⟩), .int .i64 k] w (Gives w (.tuple #[.int .i64 (stAt f l k : Nat), .int .i64 (stErr f l k)])) := by
  rcases in_cases f n k with hk | ⟨i, hk, hi⟩
  · have e : stAt f l k = 0 ∧ stErr f l k = 2 := by unfold stAt stErr; rw [h.len, hk]; exact ⟨rfl, rfl⟩
    rw [e.1, e.2]
    exact State_out g b c f n l k w h hk
  · have e := stAt_in h.len hk hi
    rw [e.1, e.2]
    exact State_in g b c f n l i k w h hk hi

set_option maxHeartbeats 1000000 in
theorem First_any (g b c f n : Nat) (l : List UInt8) (w : World) (h : BM w g b c f n l) :
    Calls Tryd.prog 25 #[.pointer (some ⟨g, 0, none⟩)] w (Gives w (.int .i64 f)) := by
  have c0 := h.c0
  clear h
  go_enter Tryd.func25, Tryd.ntmps25
  go_wp2
  go_ret
  exact ⟨rfl, Fr.refl _ _⟩

set_option maxHeartbeats 1000000 in
theorem First_nil (w : World) : Calls Tryd.prog 25 #[.pointer none] w (Gives w (.int .i64 0)) := by
  go_enter Tryd.func25, Tryd.ntmps25
  go_wp2
  go_ret
  exact ⟨rfl, Fr.refl _ _⟩

set_option maxHeartbeats 1000000 in
theorem Count_any (g b c f n : Nat) (l : List UInt8) (w : World) (h : BM w g b c f n l) :
    Calls Tryd.prog 26 #[.pointer (some ⟨g, 0, none⟩)] w (Gives w (.int .i64 n)) := by
  have c1 := h.c1
  clear h
  go_enter Tryd.func26, Tryd.ntmps26
  go_wp2
  go_ret
  exact ⟨rfl, Fr.refl _ _⟩

set_option maxHeartbeats 1000000 in
theorem Count_nil (w : World) : Calls Tryd.prog 26 #[.pointer none] w (Gives w (.int .i64 0)) := by
  go_enter Tryd.func26, Tryd.ntmps26
  go_wp2
  go_ret
  exact ⟨rfl, Fr.refl _ _⟩

/-- A new map. -/
def NewMap (w : World) (f n : Nat) (l : List UInt8) (e : Ending) (w' : World) : Prop :=
  ∃ g b c, e = .returned (.tuple #[.pointer (some ⟨g, 0, none⟩), .int .i64 0]) ∧ BM w' g b c f n l ∧ Fr Nothing w w' ∧ w.heap.size ≤ g ∧ w.heap.size ≤ b

set_option maxRecDepth 100000 in
set_option maxHeartbeats 1000000 in
theorem New_ok (f n : Nat) (w : World) (hf : f ≤ 1073741824) (h1 : 1 ≤ n) (hn : n ≤ 65536) (h3 : 2 ≤ w.heap.size) :
    Calls Tryd.prog 32 #[.int .i64 f, .int .i64 n] w (NewMap w f n (List.replicate n 0)) := by
  obtain ⟨i0, hi, hz0, hz1, hz2⟩ := info_parts info_u8
  go_enter Tryd.func32, Tryd.ntmps32
  go_wp2_with (at_make; refine wpList_make_full _ rfl _ _ 72 rfl 0 5 i0 (.int .u8 0) 1 Tryd.underlying72 hi hz0 hz1 _ _ _ _ n rfl rfl rfl rfl ?c1 ?c2 (Nat.zero_le _) ?_)
  case c1 => rw [hz2]; omega
  case c2 => unfold maxLen; omega
  intro w1 hown hgr
  have HO := Lib.hid hown
  have HG := Lib.hid hgr
  clear hown hgr
  go_wp2
  go_ret2
  refine ⟨_, _, _, rfl, ⟨Blk.new _ _ _, ?_, h3, hf, h1, hn, ok4_zeros n⟩, ((Fr.grown HG.out).mono (fun k _ hk => by cases hk)).alloc _, HG.out.size, Nat.le_refl _⟩
  have := HO.out
  rw [toList_madeCells_one] at this
  simpa [bv] using this.alloc _

set_option maxHeartbeats 1000000 in
theorem New_bad (f n : Int) (w : World) (h : f < 0 ∨ 1073741824 < f ∨ n < 1 ∨ 65536 < n) :
    Calls Tryd.prog 32 #[.int .i64 f, .int .i64 n] w (Gives w (.tuple #[.pointer none, .int .i64 2])) := by
  by_cases a : f < 0
  · go_enter Tryd.func32, Tryd.ntmps32
    go_wp2
    go_ret2
    exact ⟨rfl, Fr.refl _ _⟩
  · by_cases b : 1073741824 < f
    · go_enter Tryd.func32, Tryd.ntmps32
      go_wp2
      go_ret2
      exact ⟨rfl, Fr.refl _ _⟩
    · by_cases d : n < 1
      · go_enter Tryd.func32, Tryd.ntmps32
        go_wp2
        go_ret2
        exact ⟨rfl, Fr.refl _ _⟩
      · have h4 : 65536 < n := by omega
        clear h
        go_enter Tryd.func32, Tryd.ntmps32
        go_wp2
        go_ret2
        exact ⟨rfl, Fr.refl _ _⟩
end Go.Proofs.YtejajafbopabmaaDoor
