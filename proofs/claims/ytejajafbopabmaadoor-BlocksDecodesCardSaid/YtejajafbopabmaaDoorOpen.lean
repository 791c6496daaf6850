/- Arguments as they come in, read as lists: []byte. -/
import Derived.Test.YtejajafbopabmaaDoorCodecP
import Derived.Test.YtejajafbopabmaaDoorElems
import Derived.OpenShut
namespace Go.Proofs.YtejajafbopabmaaDoor
open Go.RowKit

/-- What is told of a slice of integers that came in. -/
def IsRow (k : IntKind) (w : World) (a : Option Addr) (len cap : Nat) (zs : List Int) : Prop :=
  (a = none ∧ len = 0 ∧ cap = 0 ∧ zs = []) ∨
  ∃ x, a = some x ∧ len ≤ cap ∧ cap ≤ maxLen ∧ zs.length = cap ∧ (∀ i, i < zs.length → w.cell? (x.add i) = some (.int k (zs.getD i 0))) ∧ ∀ n ∈ zs, (Lit.int k n).wf = true

theorem IsRow.bytes {w : World} {a : Option Addr} {len cap : Nat} {zs : List Int} (h : IsRow .u8 w a len cap zs) :
    ∃ l : List UInt8, Rd w (Old w) 1 a len (l.map bv) ∧ len ≤ cap ∧ cap ≤ 9223372036854775807 := by
  rcases h with ⟨rfl, rfl, rfl, rfl⟩ | ⟨x, rfl, hl, hm, hz, hc, hw⟩
  · exact ⟨[], Rd.none_, Nat.le_refl _, Nat.zero_le _⟩
  · refine ⟨(zs.take len).map (fun z => b8 z.toNat), ⟨by simp; omega, fun hn => ⟨x, rfl, ?_, fun j u hu => ?_⟩⟩, hl, by unfold maxLen at hm; exact hm⟩
    · have := World.block_lt_of_cell? w _ (hc 0 (by omega))
      rw [block_of_add] at this
      exact this
    · rw [List.map_map] at hu
      rw [List.getElem?_map] at hu
      cases hj : (zs.take len)[j]? with
      | none => simp [hj] at hu
      | some z =>
        rw [hj] at hu
        simp only [Option.map_some, Function.comp, Option.some.injEq] at hu
        have hjl : j < (zs.take len).length := (List.getElem?_eq_some_iff.1 hj).1
        have hjz : j < zs.length := by simp at hjl; omega
        have hze : zs[j]? = some z := by rw [List.getElem?_take] at hj; split at hj; exact hj; cases hj
        have hmem : z ∈ zs := List.mem_of_getElem? hze
        have hb := bounds_u8 (hw z hmem)
        rw [hc j hjz, List.getD_eq_getElem?_getD, hze, Option.getD_some, ← hu]
        unfold bv b8
        rw [UInt8.toNat_ofNat_of_lt' (by simp; omega)]
        congr 2
        omega
end Go.Proofs.YtejajafbopabmaaDoor
