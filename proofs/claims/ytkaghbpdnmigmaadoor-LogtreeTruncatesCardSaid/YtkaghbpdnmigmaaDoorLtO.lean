/- Arguments as they come in: digests and lists of digests; the two tables of package sha256. -/
import Derived.Test.YtkaghbpdnmigmaaDoorLtM
import Derived.Test.YtkaghbpdnmigmaaDoorRows
import Derived.Lib.LaidTab
import Derived.LaidMore
import Derived.Stop.LaidErr
import Derived.Deep.Slices
import Derived.OpenShut
import Derived.ProofKit
namespace Go.Proofs.YtkaghbpdnmigmaaDoor
open Go.RowKit Go.ChangeShapes Go.WideShapes Go.Deep

theorem bytes_of : ∀ cs : List Value, (∀ v ∈ cs, ∃ b : UInt8, v = bvI b) → ∃ d : List UInt8, cs = digC d
  | [], _ => ⟨[], rfl⟩
  | v :: r, h => by
    obtain ⟨b, rfl⟩ := h v (by simp)
    obtain ⟨d, rfl⟩ := bytes_of r (fun x hx => h x (by simp [hx]))
    exact ⟨b :: d, rfl⟩

theorem cells23 : Tryd.prog.cellsOf 23 = 32 := by kernel_rfl
theorem cells5 : Tryd.prog.cellsOf 5 = 1 := by kernel_rfl

/-- A digest's cells. -/
theorem open_dig {H : Type} {enc : TypeId × Value → H} {w : World} {base : Nat} {sp : Nat → Bool} {held : Bool} {fuel : Nat} {cs : List Value} {x : DataW H × List MemPlace}
    (h : DataW.trod enc Tryd.prog w base sp held fuel 23 cs = some x) : ∃ d : List UInt8, d.length = 32 ∧ cs = digC d := by
  obtain ⟨xs, m, _, _, hl, hx, hi⟩ := DataW.trod_array Tryd.underlying23 h
  rw [cells23] at hl
  have : ∀ v ∈ cs, ∃ b : UInt8, v = bvI b := by
    intro v hv
    obtain ⟨i, hil, hiv⟩ := List.getElem_of_mem hv
    have g := hi i (by omega)
    rw [cells5, Nat.mul_one, take1_drop cs i (.int .u8 0) hil, List.getElem?_eq_getElem (by omega)] at g
    obtain ⟨a0, e0, _, b0⟩ := DataW.trod_int Tryd.underlying5 g
    simp only [List.cons.injEq, and_true] at e0
    have hb := bounds_u8 b0
    have hv' : v = .int .u8 a0 := by
      rw [← e0, ← hiv, List.getD_eq_getElem?_getD, List.getElem?_eq_getElem hil]
      rfl
    refine ⟨UInt8.ofNat a0.toNat, ?_⟩
    rw [hv']
    unfold bvI
    rw [UInt8.toNat_ofNat_of_lt' (by simp; omega)]
    congr 1
    omega
  obtain ⟨d, rfl⟩ := bytes_of cs this
  exact ⟨d, by simpa [digC] using hl, rfl⟩

/-- A list of digests. -/
theorem open_digs {H : Type} {enc : TypeId × Value → H} {w : World} {fuel : Nat} {a : Option Addr} {len cap : Nat} {x : DataW H × List MemPlace}
    (h : DataW.trod enc Tryd.prog w 0 (fun _ => true) true fuel 22 [.slice a len cap] = some x) :
    ∃ ds : List (List UInt8), DigL w (Old w) a len ds ∧ True ∧ len ≤ cap ∧ cap ≤ 9223372036854775807 := by
  rcases open_slice Tryd.underlying22 h with ⟨hcs, _⟩ | ⟨ad, l', c', m, n, D, Pl, hcs, _, hl, hm, hmm, _, hi⟩
  · simp only [List.cons.injEq, Value.slice.injEq, and_true] at hcs
    obtain ⟨rfl, rfl, rfl⟩ := hcs
    exact ⟨[], ⟨Rd.none_, rfl, by simp⟩, trivial, Nat.le_refl _, Nat.zero_le _⟩
  · simp only [List.cons.injEq, Value.slice.injEq, and_true] at hcs
    obtain ⟨rfl, rfl, rfl⟩ := hcs
    simp only [if_true] at hmm
    rw [cells23] at hi
    have hel : ∀ i, i < len → ∃ v : { d : List UInt8 // d.length = 32 }, True ∧ ∀ j u, (digC v.1)[j]? = some u → w.cell? ((ad.add (i * 32)).add j) = some u := by
      intro i hil
      obtain ⟨cs', hc, ht'⟩ := hi i (by omega)
      obtain ⟨d, hd, rfl⟩ := open_dig ht'
      obtain ⟨_, hcl, hat⟩ := World.cells?_some hc
      refine ⟨⟨d, hd⟩, trivial, fun j u hu => ?_⟩
      have hj : j < 32 := by
        have := (List.getElem?_eq_some_iff.1 hu).1
        simpa [digC, hd] using this
      rw [hat j hj, ← hu]
    obtain ⟨l, h1, _, h3⟩ := rd_of_elems (fun v : { d : List UInt8 // d.length = 32 } => digC v.1) 32 (fun _ => True) (fun v => by simp [digC, v.2]) (by omega) hel
    refine ⟨l.map (·.1), ⟨?_, by simpa using h1, ?_⟩, trivial, hl, by unfold maxLen at hm; exact hm⟩
    · rw [List.flatMap_map]
      exact h3
    · intro d hd
      obtain ⟨v, _, rfl⟩ := List.mem_map.1 hd
      exact v.2

theorem cells97 : Tryd.prog.cellsOf 97 = 8 := by kernel_rfl
theorem cells122 : Tryd.prog.cellsOf 122 = 64 := by kernel_rfl
theorem cells96 : Tryd.prog.cellsOf 96 = 1 := by kernel_rfl
theorem g_initial : Tryd.prog.globalNamed "replevin/sha256.initial" = some 0 := by kernel_rfl
theorem ty_initial : (Tryd.prog.globals[0]?).map (·.type) = some 97 := by kernel_rfl
theorem g_constants : Tryd.prog.globalNamed "replevin/sha256.constants" = some 1 := by kernel_rfl
theorem ty_constants : (Tryd.prog.globals[1]?).map (·.type) = some 122 := by kernel_rfl
def initI : List Int := [1779033703, 3144134277, 1013904242, 2773480762, 1359893119, 2600822924, 528734635, 1541459225]
def kInt : List Int := kTab.map (fun n : Nat => (n : Int))

theorem sha_tab {W : World} (h : laidMetH Tryd.prog [("replevin/sha256.initial", Rows.laid_replevin_sha256_initial), ("replevin/sha256.constants", Rows.laid_replevin_sha256_constants)] W) : ShaTab W := by
  rw [MakeChecks.laidMetH_plain _ _ _ (by kernel_rfl)] at h
  have h1 : Lib.TabIs Tryd.prog W "replevin/sha256.initial" .u32 initI := Lib.tabIs_of_head g_initial ty_initial Tryd.underlying97 Tryd.underlying96 cells96 cells97 (show laidMet Tryd.prog (_ :: _) W from h)
  have h2 : Lib.TabIs Tryd.prog W "replevin/sha256.constants" .u32 kInt := Lib.tabIs_of_head g_constants ty_constants Tryd.underlying122 Tryd.underlying96 cells96 cells122 (show laidMet Tryd.prog (_ :: _) W from laidMet.tail h)
  refine ⟨fun j u hu => ?_, fun j hj => ?_⟩
  · have hj : j < 8 := (List.getElem?_eq_some_iff.1 hu).1
    rw [h1.cell g_initial j hj, ← hu]
    rcases j with _ | _ | _ | _ | _ | _ | _ | _ | j
    · rfl
    · rfl
    · rfl
    · rfl
    · rfl
    · rfl
    · rfl
    · rfl
    · omega
  · have hk : j < kTab.length := hj
    rw [h2.cell g_constants j (by rw [kInt, List.length_map]; exact hk)]
    unfold u32v kInt
    rw [List.getD_eq_getElem?_getD, List.getElem?_map, List.getElem?_eq_getElem hk]
    rfl
end Go.Proofs.YtkaghbpdnmigmaaDoor
