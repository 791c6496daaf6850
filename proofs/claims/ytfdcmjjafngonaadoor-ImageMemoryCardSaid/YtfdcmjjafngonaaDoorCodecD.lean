/- Contract of replevinlaw01.known: it returns true and turns no block that was there. -/
import Derived.Test.YtfdcmjjafngonaaDoorCodecC
namespace Go.Proofs.YtfdcmjjafngonaaDoor
open Go.RowKit

theorem ba_pushC (l : List UInt8) : ∀ (s : ByteArray), (l.map (fun b : UInt8 => (b.toNat : Int))).foldl (fun r n => r.push (UInt8.ofNat n.toNat)) s = ⟨(s.data.toList ++ l).toArray⟩ := by
  induction l with
  | nil => intro s; simp
  | cons b l ih =>
    intro s
    simp only [List.map_cons, List.foldl_cons]
    rw [ih]
    congr 1
    have e : UInt8.ofNat (Int.toNat (b.toNat : Int)) = b := by simp
    rw [e]
    simp [ByteArray.push]

/-- string(b) of a slice that reads as l. -/
theorem run_strC {P : Program} (w : World) (src dst e : TypeId) (hs : P.underlying src = some (.slice e)) (he : P.underlying e = some (.int .u8)) (hd : P.underlying dst = some .string)
    (S : Nat → Prop) (A : Option Addr) (n c : Nat) (l : List UInt8) (hr : Rd w S 1 A n (l.map bv)) : (convert src dst (.slice A n c)).run P w = .ok (.string ⟨l.toArray⟩) w := by
  rw [run_convert_bytes_string w src dst e A n c hs he hd]
  have hl : l.length = n := by simpa using hr.1
  rcases A with _ | ad
  · have : l = [] := by
      rcases Nat.eq_zero_or_pos n with h | h
      · exact List.eq_nil_of_length_eq_zero (hl.trans h)
      · obtain ⟨ad, e, _⟩ := hr.2 h
        cases e
    subst this
    rfl
  · have hc : ∀ j v, (l.map bv)[j]? = some v → w.cell? (ad.add j) = some v := by
      intro j v hv
      rcases Nat.eq_zero_or_pos n with h | h
      · have : l = [] := List.eq_nil_of_length_eq_zero (hl.trans h)
        subst this
        simp at hv
      · obtain ⟨ad', e, _, h'⟩ := hr.2 h
        injection e with e
        subst e
        exact h' j v hv
    have h1 := run_loadCells_list (P := P) w ad (l.map bv) hc
    rw [List.length_map, hl] at h1
    rw [run_bytesToString w ad n c (l.map (fun b : UInt8 => (b.toNat : Int))) (by rw [h1]; simp [bv, Function.comp_def])]
    rw [ba_pushC]
    rfl

abbrev run_strT (w : World) (S : Nat → Prop) (A : Option Addr) (n c : Nat) (l : List UInt8) (hr : Rd w S 1 A n (l.map bv)) : (convert 42 9 (.slice A n c)).run Tryd.prog w = .ok (.string ⟨l.toArray⟩) w :=
  run_strC w 42 9 5 Tryd.underlying42 Tryd.underlying5 Tryd.underlying9 S A n c l hr

def TrueNew (w : World) (e : Ending) (w' : World) : Prop := e = .returned (.bool true) ∧ Fr Nothing w w'

theorem rd_128_0 (w : World) : Rd (w.alloc (.cells #[.int .u8 128, .int .u8 0] 5)) (fun k => k = w.heap.size) 1 (some ⟨w.heap.size, 0, none⟩) 2 (([128, 0] : List UInt8).map bv) := rd_new w #[.int .u8 128, .int .u8 0] 5 1 2 rfl
theorem rd_128 (w : World) : Rd (w.alloc (.cells #[.int .u8 128] 5)) (fun k => k = w.heap.size) 1 (some ⟨w.heap.size, 0, none⟩) 1 (([128] : List UInt8).map bv) := rd_new w #[.int .u8 128] 5 1 1 rfl

theorem rd_128' (w : World) (o : Obj) : Rd ((w.alloc o).alloc (.cells #[.int .u8 128] 5)) (fun k => k = w.heap.size + 1) 1 (some ⟨w.heap.size + 1, 0, none⟩) 1 (([128] : List UInt8).map bv) := by
  have h := rd_128 (w.alloc o)
  have e : (w.alloc o).heap.size = w.heap.size + 1 := by simp
  rw [e] at h
  exact h

end Go.Proofs.YtfdcmjjafngonaaDoor