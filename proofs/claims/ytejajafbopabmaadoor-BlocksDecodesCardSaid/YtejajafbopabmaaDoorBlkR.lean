/- The reference's maps of blocks: contracts of New, has, with, State, Number, Take. -/
import Derived.Test.YtejajafbopabmaaDoorBlkD
namespace Go.Proofs.YtejajafbopabmaaDoor
open Go.RowKit

def ri (x : UInt8) : Value := .int .i64 (x.toNat : Nat)
def mv (f b c n : Nat) : Value := .agg #[.int .i64 f, .slice (some ⟨b, 0, none⟩) n c]

/-- The reference's list of states. -/
structure RM (w : World) (b c n : Nat) (l : List UInt8) : Prop where
  own : w.ownsRow 0 3 1 (.slice (some ⟨b, 0, none⟩) n c) n (l.map ri)
  h1 : 1 ≤ n
  hn : n ≤ 65536

section
variable {w w' : World} {b c n : Nat} {l : List UInt8} {T : Nat → Prop}
theorem RM.len (h : RM w b c n l) : l.length = n := by have := h.own.1; simpa using this
theorem RM.fr (h : RM w b c n l) (hf : Fr T w w') (hb : ¬ T b) : RM w' b c n l :=
  ⟨own_fr h.own hf (fun k hk => by simp [Value.ownBlock] at hk; subst hk; exact hb), h.h1, h.hn⟩
theorem RM.fr0 (h : RM w b c n l) (hf : Fr Nothing w w') : RM w' b c n l := h.fr hf (fun x => x)
theorem RM.at_ (h : RM w b c n l) {k : Nat} (hk : k < n) : w.cell? ⟨b, k, none⟩ = some (.int .i64 (byteAt l k : Nat)) := by
  rw [h.own.cellAt k (by omega), List.getElem?_map]
  have : k < l.length := by rw [h.len]; exact hk
  simp [byteAt, ri, this]
theorem RM.free (h : RM w b c n l) (k : Nat) : w.frozen? ⟨b, k, none⟩ = false := h.own.frozenAt k
theorem RM.lt (h : RM w b c n l) : b < w.heap.size := by
  have := World.block_lt_of_cell? w _ (h.at_ (k := 0) h.h1)
  exact this
theorem RM.rd (h : RM w b c n l) : Rd w (Rows1 (.slice (some ⟨b, 0, none⟩) n c)) 1 (some ⟨b, 0, none⟩) n (l.map ri) := Rd.of_own h.own
/-- A store of another's leaves it alone. -/
theorem RM.ne_bm (h : RM w b c n l) {g b' c' f n' : Nat} {l' : List UInt8} (h' : BM w g b' c' f n' l') : b ≠ b' ∧ b ≠ g := by
  constructor
  · intro e
    subst e
    rcases h.own.2 with ⟨e, _⟩ | ⟨g1, cap, cur, e, _, hh, _⟩
    · cases e
    · rcases h'.own.2 with ⟨e', _⟩ | ⟨g2, cap', cur', e', _, hh', _⟩
      · cases e'
      · have a1 : g1 = b := by have e2 := congrArg Value.ownBlock e; simpa [Value.ownBlock] using e2.symm
        have a2 : g2 = b := by have e2 := congrArg Value.ownBlock e'; simpa [Value.ownBlock] using e2.symm
        subst a1
        rw [a2] at hh'
        exact Blk.ne_ (t := 3) hh hh' (by decide) rfl
  · intro e
    have := own_blk_ne h.own h'.blk (by decide)
    simp [Value.ownBlock, e] at this
end
theorem RM.one {w w' : World} {b c n : Nat} {l : List UInt8} (h : RM w b c n l) {g b' c' f n' : Nat} {l' : List UInt8} (h' : BM w g b' c' f n' l') (hf : Fr (One b') w w') : RM w' b c n l := h.fr hf (h.ne_bm h').1

def SomeM (w : World) (f n : Nat) (l : List UInt8) (more : Value → Value) (e : Ending) (w' : World) : Prop := ∃ b c, e = .returned (more (mv f b c n)) ∧ RM w' b c n l ∧ Fr Nothing w w'

theorem grewR_form {w w' : World} {v' : Value} {l : List UInt8} {n : Nat} (h : Grew 3 1 w (.slice none 0 0) w' v' n (l.map ri)) (hn : 1 ≤ n) (hn2 : n ≤ 65536) :
    ∃ b c, v' = .slice (some ⟨b, 0, none⟩) n c ∧ w.heap.size ≤ b ∧ RM w' b c n l := by
  obtain ⟨b, c, e, _, _⟩ := h.own.form hn
  subst e
  exact ⟨b, c, rfl, h.new b rfl, h.own, hn, hn2⟩

theorem oneCell_ri (l : List UInt8) : ∀ u ∈ l.map ri, u.oneCell' = true := by
  intro u hu
  obtain ⟨b, _, rfl⟩ := List.mem_map.1 hu
  rfl

set_option maxRecDepth 100000 in
set_option maxHeartbeats 1000000 in
theorem rNew_ok (f n : Nat) (w : World) (hf : f ≤ 1073741824) (h1 : 1 ≤ n) (hn : n ≤ 65536) :
    Calls Tryd.prog 33 #[.int .i64 f, .int .i64 n] w (SomeM w f n (List.replicate n 0) (fun v => .tuple #[v, .int .i64 0])) := by
  obtain ⟨i0, hi, hz0, hz1, hz2⟩ := info_parts info_int
  go_enter Tryd.func33, Tryd.ntmps33
  go_wp2_with (at_make; refine wpList_make_full _ rfl _ _ 26 rfl 0 3 i0 (.int .i64 0) 1 Tryd.underlying26 hi hz0 hz1 _ _ _ _ n rfl rfl rfl rfl ?c1 ?c2 (Nat.zero_le _) ?_)
  case c1 => rw [hz2]; omega
  case c2 => unfold maxLen; omega
  intro w1 hown hgr
  have HO := Lib.hid hown
  have hb := (Blk.new w 28 #[.int .i64 0, .slice none 0 0]).fr (Fr.grown hgr) (by simp)
  have HG : Hid (Fr Nothing w w1) := ((Fr.refl _ _).alloc _).trans ((Fr.grown hgr).mono (fun k _ hk => by cases hk))
  have c0 := hb.cell 0
  have c1 := hb.cell 1
  have f0 := hb.frozen 0
  have f1 := hb.frozen 1
  clear hown hgr
  simp at c0 c1
  go_wp2
  have hB2 : Blk ((w1.setCell ⟨w.heap.size, 0, none⟩ (.int .i64 f)).setCell ⟨w.heap.size, 1, none⟩ (.slice (some ⟨w.heap.size + 1, 0, none⟩) n n)) w.heap.size 28 #[.int .i64 f, .slice (some ⟨w.heap.size + 1, 0, none⟩) n n] := by simpa using (hb.set_ 0 (.int .i64 f)).set_ 1 (.slice (some ⟨w.heap.size + 1, 0, none⟩) n n)
  have hF2 : Fr Nothing w ((w1.setCell ⟨w.heap.size, 0, none⟩ (.int .i64 f)).setCell ⟨w.heap.size, 1, none⟩ (.slice (some ⟨w.heap.size + 1, 0, none⟩) n n)) := (HG.out.setCell (p := ⟨w.heap.size, 0, none⟩) (fun h => by simp at h) _).setCell (p := ⟨w.heap.size, 1, none⟩) (fun h => by simp at h) _
  have hR2 : RM ((w1.setCell ⟨w.heap.size, 0, none⟩ (.int .i64 f)).setCell ⟨w.heap.size, 1, none⟩ (.slice (some ⟨w.heap.size + 1, 0, none⟩) n n)) (w.heap.size + 1) n n (List.replicate n 0) := by
    have := HO.out
    rw [toList_madeCells_one] at this
    have h3 : RM w1 (w.heap.size + 1) n n (List.replicate n 0) := ⟨by simpa [ri] using this, h1, hn⟩
    exact h3.fr (((Fr.refl (One w.heap.size) w1).setCell (p := ⟨w.heap.size, 0, none⟩) (fun _ => rfl) _).setCell (p := ⟨w.heap.size, 1, none⟩) (fun _ => rfl) _) (by simp [One])
  generalize ((w1.setCell ⟨w.heap.size, 0, none⟩ (.int .i64 f)).setCell ⟨w.heap.size, 1, none⟩ (.slice (some ⟨w.heap.size + 1, 0, none⟩) n n)) = wF at *
  have d0 := hB2.cell 0
  have d1 := hB2.cell 1
  simp at d0 d1
  exact bodyPost_ret (v := .tuple #[mv f (w.heap.size + 1) n n, .int .i64 0]) (by simp [results, Tryd.results33, go_sem, mv, d0, d1]) rfl ⟨_, _, rfl, hR2, hF2⟩

theorem Blk.set2 {w : World} {g : Nat} {t : TypeId} {a b : Value} (h : Blk w g t #[a, b]) (x y : Value) : Blk ((w.setCell ⟨g, 0, none⟩ x).setCell ⟨g, 1, none⟩ y) g t #[x, y] := by
  simpa using (h.set_ 0 x).set_ 1 y
theorem Fr.set2 {T : Nat → Prop} {a w : World} (h : Fr T a w) {g : Nat} (hg : g < a.heap.size → T g) (x y : Value) : Fr T a ((w.setCell ⟨g, 0, none⟩ x).setCell ⟨g, 1, none⟩ y) :=
  (h.setCell (p := ⟨g, 0, none⟩) hg x).setCell (p := ⟨g, 1, none⟩) hg y
theorem fr_one2 (w : World) (g : Nat) (x y : Value) : Fr (One g) w ((w.setCell ⟨g, 0, none⟩ x).setCell ⟨g, 1, none⟩ y) := (Fr.refl (One g) w).set2 (fun _ => rfl) x y

def zeroM : Value := .agg #[.int .i64 0, .slice none 0 0]

set_option maxRecDepth 100000 in
set_option maxHeartbeats 1000000 in
theorem rNew_bad (f n : Int) (w : World) (h : f < 0 ∨ 1073741824 < f ∨ n < 1 ∨ 65536 < n) :
    Calls Tryd.prog 33 #[.int .i64 f, .int .i64 n] w (Gives w (.tuple #[zeroM, .int .i64 2])) := by
  have hx : f < 0 ∨ (decide (f < 0) = false ∧ 1073741824 < f) ∨ (decide (f < 0) = false ∧ decide (1073741824 < f) = false ∧ n < 1) ∨ (decide (f < 0) = false ∧ decide (1073741824 < f) = false ∧ decide (n < 1) = false ∧ 65536 < n) := by
    by_cases a : f < 0
    · exact .inl a
    · by_cases b : 1073741824 < f
      · exact .inr (.inl ⟨by simpa using a, b⟩)
      · by_cases d : n < 1
        · exact .inr (.inr (.inl ⟨by simpa using a, by simpa using b, d⟩))
        · exact .inr (.inr (.inr ⟨by simpa using a, by simpa using b, by simpa using d, by omega⟩))
  clear h
  rcases hx with a | ⟨a, b⟩ | ⟨a, b, d⟩ | ⟨a, b, d, e⟩
  all_goals
    go_enter Tryd.func33, Tryd.ntmps33
    go_wp2
    exact bodyPost_ret (v := .tuple #[zeroM, .int .i64 2]) (by simp [results, Tryd.results33, go_sem, zeroM]) rfl ⟨rfl, (Fr.refl _ _).alloc _⟩

set_option maxHeartbeats 1000000 in
theorem rhas_any (f b c n : Nat) (k : Int) (w : World) (hf : f ≤ 1073741824) (hk : -9223372036854775808 ≤ k) (hk2 : k ≤ 9223372036854775807) (hn : n ≤ 65536) :
    Calls Tryd.prog 56 #[mv f b c n, .int .i64 k] w (Gives w (.bool (isIn f n k))) := by
  unfold mv
  by_cases hlo : (f : Int) ≤ k
  · by_cases hhi : k - f < n
    · rw [isIn_yes hlo (by omega)]
      go_enter Tryd.func56, Tryd.ntmps56
      go_wp2
      go_ret
      exact ⟨rfl, (Fr.refl _ _).alloc _⟩
    · rw [isIn_hi (by omega)]
      have hd : decide (k - (f : Int) < (n : Int)) = false := by simpa using hhi
      go_enter Tryd.func56, Tryd.ntmps56
      go_wp2
      go_ret
      exact ⟨rfl, (Fr.refl _ _).alloc _⟩
  · rw [isIn_lo (by omega)]
    have hd : decide ((f : Int) ≤ k) = false := by simpa using hlo
    go_enter Tryd.func56, Tryd.ntmps56
    go_wp2
    go_ret
    exact ⟨rfl, (Fr.refl _ _).alloc _⟩

set_option maxRecDepth 100000 in
set_option maxHeartbeats 1000000 in
theorem with_any (f b c n : Nat) (l : List UInt8) (i : Nat) (k : Int) (s : UInt8) (w : World) (h : RM w b c n l) (hk : k = (f : Int) + (i : Int)) (hi : i < n) (_ : f ≤ 1073741824) :
    Calls Tryd.prog 57 #[mv f b c n, .int .i64 k, .int .i64 (s.toNat : Nat)] w (SomeM w f n (l.set i s) (fun v => v)) := by
  subst hk
  obtain ⟨i0, hi0, hz0, hz1, hz2⟩ := info_parts info_int
  have HR := Lib.hid h
  have hn := h.hn
  clear h
  unfold mv
  go_enter Tryd.func57, Tryd.ntmps57
  go_wp2_with (at_builtin; refine wpList_app _ rfl _ _ 26 rfl 3 i0 _ 1 8 Tryd.underlying26 hi0 hz0 hz1 hz2 rfl (by omega) _ 0 [] rfl ?c1 _ _ n c _ rfl (HR.out.rd.fr0 ((((Fr.refl _ _).alloc _).alloc _).alloc _)) (oneCell_ri _) (by omega) (by omega) ?_)
  case c1 =>
    have hl := World.ownsRow_lit (base := 0) (size := 1) (e := 3) ((w.alloc (.cells #[.int .i64 f, .slice (some ⟨b, 0, none⟩) n c] 28)).alloc (.cells #[.int .i64 0, .slice none 0 0] 28)) #[] 0 (Nat.zero_le _) (by simp [maxLen]) rfl
    simp only [World.size_alloc] at hl
    exact hl
  intro v2 w2 hg2
  have hfr : Fr Nothing ((w.alloc (.cells #[.int .i64 f, .slice (some ⟨b, 0, none⟩) n c] 28)).alloc (.cells #[.int .i64 0, .slice none 0 0] 28)) w2 :=
    ((Fr.refl _ _).alloc _).then_ hg2.fr (fun k hk hr => by simp [Rows1, Value.ownBlock] at hr hk; omega)
  have hgg := Grew.fresh (((((Fr.refl _ w).alloc (.cells #[.int .i64 f, .slice (some ⟨b, 0, none⟩) n c] 28)).alloc (.cells #[.int .i64 0, .slice none 0 0] 28)).alloc (.cells #[] 3))) (fun k hk => by simp [Value.ownBlock] at hk; omega) hg2
  obtain ⟨b2, k2, rfl, hb2, hr2⟩ := grewR_form hgg HR.out.h1 hn
  have hnew : w.heap.size + 2 ≤ b2 := by
    rcases hg2.lies b2 rfl with h | h
    · simp [Value.ownBlock] at h; omega
    · simp at h; omega
  have hA : Blk w2 w.heap.size 28 #[.int .i64 f, .slice (some ⟨b, 0, none⟩) n c] := ((Blk.new w _ _).alloc _).fr hfr (fun x => x)
  have hB : Blk w2 (w.heap.size + 1) 28 #[.int .i64 0, .slice none 0 0] := by
    have := Blk.new (w.alloc (.cells #[.int .i64 f, .slice (some ⟨b, 0, none⟩) n c] 28)) 28 #[.int .i64 0, .slice none 0 0]
    rw [World.size_alloc] at this
    exact this.fr hfr (fun x => x)
  have hF : Fr Nothing w w2 := (((Fr.refl _ _).alloc _).alloc _).trans hfr
  clear hg2 hgg hfr
  -- the field stored
  have hA3 : Blk (w2.setCell ⟨w.heap.size, 1, none⟩ (.slice (some ⟨b2, 0, none⟩) n k2)) w.heap.size 28 #[.int .i64 f, .slice (some ⟨b2, 0, none⟩) n k2] := by simpa using hA.set_ 1 (.slice (some ⟨b2, 0, none⟩) n k2)
  have hB3 := hB.far (p := ⟨w.heap.size, 1, none⟩) (by simp) (.slice (some ⟨b2, 0, none⟩) n k2)
  have hR3 := hr2.fr ((Fr.refl (One w.heap.size) w2).setCell (p := ⟨w.heap.size, 1, none⟩) (fun _ => rfl) (.slice (some ⟨b2, 0, none⟩) n k2)) (by simp [One]; omega)
  have hF3 := hF.setCell (p := ⟨w.heap.size, 1, none⟩) (fun h => by simp at h) (.slice (some ⟨b2, 0, none⟩) n k2)
  have d0 := hA.cell 1
  have d1 := hA.frozen 1
  simp at d0
  have HA3 := Lib.hid hA3
  have HB3 := Lib.hid hB3
  have HR3 := Lib.hid hR3
  have HF3 := Lib.hid hF3
  have e0 := hA3.cell 0
  have e1 := hA3.cell 1
  simp only [List.getElem?_toArray, List.getElem?_cons_zero, List.getElem?_cons_succ] at e0 e1
  have e2 := hR3.at_ hi
  have e3 := hR3.free i
  have hA4 := hA3.far (p := ⟨b2, i, none⟩) (by simp; omega) (.int .i64 (s.toNat : Nat))
  have hB4 := hB3.far (p := ⟨b2, i, none⟩) (by simp; omega) (.int .i64 (s.toNat : Nat))
  have g0 := hA4.cell 0
  have g1 := hA4.cell 1
  simp only [List.getElem?_toArray, List.getElem?_cons_zero, List.getElem?_cons_succ] at g0 g1
  have HA4 := Lib.hid hA4
  have HB4 := Lib.hid hB4
  have k0 := hB4.cell 0
  have k1 := hB4.cell 1
  simp only [List.getElem?_toArray, List.getElem?_cons_zero, List.getElem?_cons_succ] at k0 k1
  have k2' := hB4.frozen 0
  have k3 := hB4.frozen 1
  have hu := HR.out.len
  have HI := Lib.hid hi
  have hi2 : (i : Int) < (n : Int) := by omega
  clear hA hB hA3 hB3 hR3 hF3 hA4 hB4 hr2 hF HR hu
  go_wp2
  have HB5 : Blk _ (w.heap.size + 1) 28 #[.int .i64 f, .slice (some ⟨b2, 0, none⟩) n k2] := HB4.out.set2 (.int .i64 f) (.slice (some ⟨b2, 0, none⟩) n k2)
  have m0 := HB5.cell 0
  have m1 := HB5.cell 1
  simp only [List.getElem?_toArray, List.getElem?_cons_zero, List.getElem?_cons_succ] at m0 m1
  refine bodyPost_ret (v := mv f b2 k2 n) (by simp [results, Tryd.results57, go_sem, mv, m0, m1]) rfl ⟨b2, k2, rfl, ?_, ?_⟩
  · have h4 : RM (((w2.setCell ⟨w.heap.size, 1, none⟩ (.slice (some ⟨b2, 0, none⟩) n k2))).setCell ⟨b2, i, none⟩ (.int .i64 (s.toNat : Nat))) b2 k2 n (l.set i s) := by
      refine ⟨?_, HR3.out.h1, hn⟩
      have := (HR3.out.own.stored i (ri s)).1
      rw [List.map_set]
      exact this
    exact h4.fr (fr_one2 _ (w.heap.size + 1) _ _) (by simp [One]; omega)
  · exact (HF3.out.setCell (p := ⟨b2, i, none⟩) (fun h => by simp at h; omega) _).set2 (fun h => by omega) _ _
end Go.Proofs.YtejajafbopabmaaDoor
