/- Several texts in one. -/
import Derived.Test.YtfdcmjjafngonaaDoorGwA
import Derived.ArgAppend
import Derived.Lib.ConvBytes
import Derived.WalkKit
import Derived.Lib.AppendStr
/- A row of bytes of one's own that may have come from a conversion: it reads as a list, and append makes it longer. -/
namespace Go.Proofs.YtfdcmjjafngonaaDoor
open Go.RowKit

def txL (s : ByteArray) : List UInt8 := s.data.toList
theorem txL_length (s : ByteArray) : (txL s).length = s.size := by simp [txL]

structure BGrew (W w : World) (v : Value) (l : List UInt8) : Prop where
  fr : Fr Nothing W w
  row : ∃ g cap, v = .slice (some ⟨g, 0, none⟩) l.length cap ∧ W.heap.size ≤ g ∧ g < w.heap.size ∧ l.length ≤ cap ∧ cap ≤ maxLen ∧ (∀ j, j < cap → (w.cell? ⟨g, j, none⟩).isSome = true) ∧
    (∀ j, j < cap → w.frozen? ⟨g, j, none⟩ = false) ∧ (∀ j u, (l.map bvI)[j]? = some u → w.cell? ⟨g, j, none⟩ = some u)

theorem info_u8' : (Tryd.prog.info? 5).map (fun i => (i.zero, i.size, i.bytes)) = some (some (.int .u8 0), 1, 1) := by kernel_rfl

theorem BGrew.conv (w : World) (s : ByteArray) (hs : s.size ≤ 1099511627776) : ∃ v w1, (convert 9 42 (.string s)).run Tryd.prog w = .ok v w1 ∧ BGrew w w1 v (txL s) := by
  have hge := grownCap_ge w s.size 0 5
  have hsz : (Lib.bytesCells w 5 s).size = grownCap w s.size 0 5 := by
    simp only [Lib.bytesCells, Array.size_append, Array.size_map, Array.size_replicate]
    show s.size + _ = _
    omega
  refine ⟨_, _, Lib.run_convert_string_bytes w 9 42 5 s Tryd.underlying9 Tryd.underlying42 Tryd.underlying5, ⟨rfl, rfl, rfl, by rw [Lib.bytesWorld_size]; omega, fun k hk _ => Lib.bytesWorld_at_old w _ s k hk⟩, w.heap.size, _, by rw [txL_length], Nat.le_refl _, by rw [Lib.bytesWorld_size]; omega, by rw [txL_length]; exact hge, grownCap_le_maxLen w s.size 0 _ (by simp only [maxLen]; omega), fun j hj => ?_, fun j hj => ?_, fun j u hu => ?_⟩
  · simp only [World.cell?, Lib.bytesWorld_at_new]
    have : j < (Lib.bytesCells w 5 s).size := by omega
    simp [this]
  · simp only [World.frozen?, Lib.bytesWorld_at_new, hsz]
    simp
    omega
  · rw [List.getElem?_map] at hu
    cases hj : (txL s)[j]? with
    | none => rw [hj] at hu; cases hu
    | some x =>
      rw [hj] at hu
      simp only [Option.map_some, Option.some.injEq] at hu
      have hjl : j < s.size := by rw [← txL_length]; exact (List.getElem?_eq_some_iff.1 hj).1
      rw [Lib.bytesWorld_cell w _ s j hjl]
      unfold txL at hj
      rw [List.getD_eq_getElem?_getD, hj, ← hu]
      rfl

theorem BGrew.of_own {W w : World} {base : Nat} {v : Value} {l : List UInt8} (h : w.ownsRow base 5 1 v l.length (l.map bvI)) (hb : W.heap.size ≤ base) (hf : Fr Nothing W w) (hn : l ≠ []) : BGrew W w v l := by
  rcases h.2 with ⟨rfl, h0⟩ | ⟨g, cap, cur, rfl, hbg, hg, hnc, hcm, hcs, htake⟩
  · cases l with
    | nil => exact absurd rfl hn
    | cons x r => simp at h0
  · have hlt : g < w.heap.size := by
      rcases Nat.lt_or_ge g w.heap.size with h' | h'
      · exact h'
      · rw [Array.getElem?_eq_none h'] at hg; cases hg
    refine ⟨hf, g, cap, rfl, by omega, hlt, hnc, hcm, fun j hj => ?_, fun j _ => by simp [World.frozen?, hg], fun j u hu => ?_⟩
    · have hj' : j < cur.size := by omega
      simp [World.cell?, hg, hj']
    · have h2 := h.cells (g := g) rfl j u hu
      rw [show (⟨g, 0, none⟩ : Addr).add j = ⟨g, j, none⟩ by unfold Addr.add; split <;> simp_all] at h2
      exact h2

/-- append of some bytes that can be read somewhere. -/
theorem BGrew.app {W w : World} {v : Value} {l x : List UInt8} (h : BGrew W w v l) (ty : TypeId) (a : Addr) (c : Nat) (hx : ∀ j u, (x.map bvI)[j]? = some u → w.cell? (a.add j) = some u) (hl : l.length + x.length ≤ 140737488355328) (hne : x ≠ []) :
    ∃ v' w', (Builtin.append_ #[42, 42] ty #[v, .slice (some a) x.length c]).run Tryd.prog w = .ok v' w' ∧ BGrew W w' v' (l ++ x) := by
  obtain ⟨hf, g, cap, rfl, hWg, hgw, hlc, hcm, hc, hz, hr⟩ := h
  obtain ⟨i, hi, hz0, hz1, hz2⟩ := info_parts info_u8'
  have hone : ∀ u ∈ x.map bvI, u.oneCell' = true := by
    intro u hu
    obtain ⟨b, _, rfl⟩ := List.mem_map.1 hu
    rfl
  by_cases hroom : l.length + x.length ≤ cap
  · have hrun := run_append_room_cells (P := Tryd.prog) w 42 ty 5 i Tryd.underlying42 hi g 0 l.length cap a x.length c (x.map bvI) (by rw [hz1]; simp) hx hone hroom (fun j hj => by
      rw [hz1, Nat.mul_one, Nat.zero_add]; simp at hj; exact hc _ (by omega)) (fun j hj => by rw [hz1, Nat.mul_one, Nat.zero_add]; simp at hj; exact hz _ (by omega))
    rw [hz1, Nat.mul_one, Nat.zero_add] at hrun
    refine ⟨_, _, hrun, ?_⟩
    refine ⟨Fr.setCells (fun hlt => by omega) _ _ _ hf, g, cap, by rw [List.length_append], hWg, ?_, by rw [List.length_append]; exact hroom, hcm, fun j hj => ?_, fun j hj => ?_, fun j u hu => ?_⟩
    · exact Nat.lt_of_lt_of_le hgw (Fr.setCells (T := fun k => k = g) (fun _ => rfl) _ _ _ (Fr.refl _ w)).size
    · exact Lib.isSome_setCells _ _ _ _ _ (hc j hj)
    · rw [World.frozen?_setCells]; exact hz j hj
    · rw [List.map_append, List.getElem?_append] at hu
      by_cases hj : j < (l.map bvI).length
      · rw [if_pos hj] at hu
        rw [World.cell?_setCells_out _ _ _ _ _ (fun _ _ => Or.inl (by simpa using hj))]
        exact hr j u hu
      · rw [if_neg hj] at hu
        have hjl : l.length ≤ j := by simpa using hj
        rw [List.length_map] at hu
        obtain ⟨hlt, hval⟩ := List.getElem?_eq_some_iff.1 hu
        have e := World.cell?_setCells_in g (x.map bvI) l.length w (fun k hk => hc _ (by simp at hk; omega)) (j - l.length) hlt
        rw [show l.length + (j - l.length) = j by omega] at e
        rw [e, hval]
  · obtain ⟨v', w', hrun, hown, hgr⟩ := run_append_arg_grows (P := Tryd.prog) w 42 ty 5 i (.int .u8 0) 1 1 Tryd.underlying42 hi hz0 hz1 hz2 rfl (by omega) ⟨g, 0, none⟩ l.length cap (l.map bvI) (by simp) (fun j u hu => by
      rw [show (⟨g, 0, none⟩ : Addr).add j = ⟨g, j, none⟩ by unfold Addr.add; split <;> simp_all]; exact hr j u hu) a x.length c (x.map bvI) (by simp) hx (by omega) (by simp only [maxLen]; omega) (by omega)
    refine ⟨v', w', hrun, BGrew.of_own (base := w.heap.size) ?_ hf.size (hf.trans ((Fr.grown hgr).mono (fun k _ hk => by cases hk))) (by simp [hne])⟩
    rw [List.length_append, List.map_append]
    exact hown
end Go.Proofs.YtfdcmjjafngonaaDoor

/- The reference's Join. -/
namespace Go.Proofs.YtfdcmjjafngonaaDoor
open Go.RowKit

theorem ba_push (l : List UInt8) : ∀ (s : ByteArray), (l.map (fun b : UInt8 => (b.toNat : Int))).foldl (fun r n => r.push (UInt8.ofNat n.toNat)) s = ⟨(s.data.toList ++ l).toArray⟩ := by
  induction l with
  | nil => intro s; simp
  | cons b l ih =>
    intro s
    simp only [List.map_cons, List.foldl_cons]
    rw [ih]
    congr 1
    have e : UInt8.ofNat (Int.toNat (b.toNat : Int)) = b := by simp
    rw [e]
    simp [ByteArray.push]

/-- string(b) of a slice that reads as l. -/
theorem run_str {P : Program} (w : World) (src dst e : TypeId) (hs : P.underlying src = some (.slice e)) (he : P.underlying e = some (.int .u8)) (hd : P.underlying dst = some .string)
    (S : Nat → Prop) (A : Option Addr) (n c : Nat) (l : List UInt8) (hr : Rd w S 1 A n (l.map bvI)) : (convert src dst (.slice A n c)).run P w = .ok (.string ⟨l.toArray⟩) w := by
  rw [run_convert_bytes_string w src dst e A n c hs he hd]
  have hl : l.length = n := by simpa using hr.1
  rcases A with _ | ad
  · have : l = [] := by
      rcases Nat.eq_zero_or_pos n with h | h
      · exact List.eq_nil_of_length_eq_zero (hl.trans h)
      · obtain ⟨ad, e, _⟩ := hr.2 h
        cases e
    subst this
    rfl
  · have hc : ∀ j v, (l.map bvI)[j]? = some v → w.cell? (ad.add j) = some v := by
      intro j v hv
      rcases Nat.eq_zero_or_pos n with h | h
      · have : l = [] := List.eq_nil_of_length_eq_zero (hl.trans h)
        subst this
        simp at hv
      · obtain ⟨ad', e, _, h'⟩ := hr.2 h
        injection e with e
        subst e
        exact h' j v hv
    have h1 := run_loadCells_list (P := P) w ad (l.map bvI) hc
    rw [List.length_map, hl] at h1
    rw [run_bytesToString w ad n c (l.map (fun b : UInt8 => (b.toNat : Int))) (by rw [h1]; simp [bvI, Function.comp_def])]
    rw [ba_push]
    rfl

abbrev GrB (w : World) (v : Value) (w' : World) (v' : Value) (l : List UInt8) : Prop := Grew 5 1 w v w' v' l.length (l.map bvI)
theorem strCells_bvI (s : ByteArray) : Lib.strCells s = (txL s).map bvI := rfl
theorem oneCell_bvI (l : List UInt8) : ∀ u ∈ l.map bvI, u.oneCell' = true := by
  intro u hu
  obtain ⟨b, _, rfl⟩ := List.mem_map.1 hu
  rfl
theorem oct_bvI (n : Nat) : bvI (oct n) = .int .u8 ((n % 256 : Nat) : Int) := by
  unfold bvI oct
  rw [UInt8.toNat_ofNat']

/-- Texts in a slice of strings. -/
def strCell (s : ByteArray) : Value := .string s
def JoinK (tag : UInt8) (ps : List ByteArray) (k : Nat) : List UInt8 := tag :: oct ps.length :: (ps.take k).flatMap fun p => wBytes p.size ++ txL p
theorem JoinK_succ (tag : UInt8) (ps : List ByteArray) (k : Nat) (p : ByteArray) (h : ps[k]? = some p) : JoinK tag ps (k + 1) = JoinK tag ps k ++ wBytes p.size ++ txL p := by
  unfold JoinK
  rw [List.take_add_one, h]
  simp [List.flatMap_append]
theorem JoinK_all (tag : UInt8) (ps : List ByteArray) (k : Nat) (h : ps.length ≤ k) : JoinK tag ps k = joinL tag (ps.map txL) := by
  unfold JoinK joinL
  rw [List.take_of_length_le h, List.length_map]
  congr 2
  rw [List.flatMap_map]
  congr 1

def Joined (w : World) (s : ByteArray) (e : Ending) (w' : World) : Prop := e = .returned (.tuple #[.string s, .int .i64 0]) ∧ Fr Nothing w w'

theorem four_list (n : Nat) (h : n < 4294967296) : [Value.int .u8 ((n : Int) / 16777216), .int .u8 ((n : Int) / 65536 % 256), .int .u8 ((n : Int) / 256 % 256), .int .u8 ((n : Int) % 256)] = (wBytes n).map bvI := by
  unfold wBytes
  simp only [List.map_cons, List.map_nil, oct_bvI]
  rw [show ((n / 16777216 % 256 : Nat) : Int) = (n : Int) / 16777216 by omega, show ((n / 65536 % 256 : Nat) : Int) = (n : Int) / 65536 % 256 by omega, show ((n / 256 % 256 : Nat) : Int) = (n : Int) / 256 % 256 by omega, show ((n % 256 : Nat) : Int) = (n : Int) % 256 by omega]

end Go.Proofs.YtfdcmjjafngonaaDoor

/- sha256.Join. -/
namespace Go.Proofs.YtfdcmjjafngonaaDoor
open Go.RowKit

theorem JoinK_len (tag : UInt8) (ps : List ByteArray) (k : Nat) (p : ByteArray) (h : ps[k]? = some p) : (JoinK tag ps (k + 1)).length = (JoinK tag ps k).length + (4 + p.size) := by
  rw [JoinK_succ tag ps k p h, List.length_append, List.length_append, txL_length]
  have : (wBytes p.size).length = 4 := rfl
  omega

end Go.Proofs.YtfdcmjjafngonaaDoor