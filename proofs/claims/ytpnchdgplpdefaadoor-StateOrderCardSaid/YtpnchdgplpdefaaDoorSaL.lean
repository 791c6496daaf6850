/- State: what a law's arguments are. -/
import Derived.Test.YtpnchdgplpdefaaDoorSaK
import Derived.RegionTactic
import Derived.OwnWalk
import Derived.Laws.Rows
import Derived.Deep.Slices
import Derived.OpenShut
namespace Go.Proofs.YtpnchdgplpdefaaDoor
open Go.ChangeShapes Go.WideShapes Go.ChangeAt Go.RowKit Go.Deep

def initI : List Int := [1779033703, 3144134277, 1013904242, 2773480762, 1359893119, 2600822924, 528734635, 1541459225]
def kInt : List Int := kTab.map (fun n : Nat => (n : Int))
structure NameV.good (n : NameV) : Prop where
  kind : -9223372036854775808 ≤ n.kind ∧ n.kind ≤ 9223372036854775807
  number : -9223372036854775808 ≤ n.number ∧ n.number ≤ 9223372036854775807
  index : -9223372036854775808 ≤ n.index ∧ n.index ≤ 9223372036854775807
  owner : n.owner.size ≤ 9223372036854775807
  text : n.text.size ≤ 9223372036854775807
structure CV.good (c : CV) : Prop where
  nm : c.nm.good
  value : c.value.size ≤ 9223372036854775807

set_option maxRecDepth 100000 in
theorem open_name {H : Type} {enc : TypeId × Value → H} {w : World} {base : Nat} {sp : Nat → Bool} {held : Bool} {fuel : Nat} {l : List Value} {x : DataW H × List MemPlace}
    (h : DataW.trod enc Tryd.prog w base sp held fuel 40 l = some x) : ∃ n : NameV, n.good ∧ l = n.cells := by
  obtain ⟨ys, n', _, rfl, hcl, hyl, hf⟩ := DataW.trod_struct Tryd.underlying40 h
  rw [cellsNm] at hcl
  match l, hcl with
  | [x0, x1, x2, x3, x4], _ =>
    have g0 := hf 0 _ rfl
    have g1 := hf 1 _ rfl
    have g2 := hf 2 _ rfl
    have g3 := hf 3 _ rfl
    have g4 := hf 4 _ rfl
    match ys, hyl with
    | [y0, y1, y2, y3, y4], _ =>
      simp [cellsInt, cellsStr] at g0 g1 g2 g3 g4
      obtain ⟨a0, e0, rfl, b0⟩ := DataW.trod_int Tryd.underlying3 g0
      obtain ⟨a1, e1, rfl, b1⟩ := DataW.trod_string Tryd.underlying9 g1
      obtain ⟨a2, e2, rfl, b2⟩ := DataW.trod_int Tryd.underlying3 g2
      obtain ⟨a3, e3, rfl, b3⟩ := DataW.trod_int Tryd.underlying3 g3
      obtain ⟨a4, e4, rfl, b4⟩ := DataW.trod_string Tryd.underlying9 g4
      simp only [List.cons.injEq, and_true] at e0 e1 e2 e3 e4
      subst e0 e1 e2 e3 e4
      have r0 := bounds_i64 b0
      have r2 := bounds_i64 b2
      have r3 := bounds_i64 b3
      unfold maxLen at b1 b4
      exact ⟨⟨a0, a1, a2, a3, a4⟩, ⟨⟨r0.1, r0.2⟩, ⟨r2.1, r2.2⟩, ⟨r3.1, r3.2⟩, b1, b4⟩, rfl⟩
set_option maxRecDepth 100000 in
theorem open_c {H : Type} {enc : TypeId × Value → H} {w : World} {base : Nat} {sp : Nat → Bool} {held : Bool} {fuel : Nat} {l : List Value} {x : DataW H × List MemPlace}
    (h : DataW.trod enc Tryd.prog w base sp held fuel 42 l = some x) : ∃ c : CV, c.good ∧ l = c.cells := by
  obtain ⟨ys, n', _, rfl, hcl, hyl, hf⟩ := DataW.trod_struct Tryd.underlying42 h
  rw [cellsC] at hcl
  match l, hcl with
  | [x0, x1, x2, x3, x4, x5, x6], _ =>
    have g0 := hf 0 _ rfl
    have g1 := hf 1 _ rfl
    have g2 := hf 2 _ rfl
    match ys, hyl with
    | [y0, y1, y2], _ =>
      simp [cellsNm, cellsStr, cellsBool] at g0 g1 g2
      obtain ⟨n, hn, e0⟩ := open_name g0
      obtain ⟨a1, e1, rfl, b1⟩ := DataW.trod_string Tryd.underlying9 g1
      obtain ⟨a2, e2, rfl⟩ := DataW.trod_bool Tryd.underlying4 g2
      simp only [List.cons.injEq, and_true] at e1 e2
      subst e1 e2
      unfold maxLen at b1
      refine ⟨⟨n, a1, a2⟩, ⟨hn, b1⟩, ?_⟩
      rw [CV.cells, ← e0]
      rfl
set_option maxRecDepth 100000 in
theorem open_cval {H : Type} {enc : TypeId × Value → H} {w : World} {r : Reach} {b fuel : Nat} {v : Value} {x : DataW H × List MemPlace} (hval : Value.okWide Tryd.prog w r b 42 v)
    (h : DataW.trod enc Tryd.prog w 0 (fun _ => true) true fuel 42 v.cells.toList = some x) : ∃ c : CV, v = .agg c.cells.toArray ∧ c.good := by
  unfold Value.okWide at hval
  rw [Tryd.underlying42] at hval
  obtain ⟨⟨l⟩, rfl, hs, _⟩ := hval
  have h' : DataW.trod enc Tryd.prog w 0 (fun _ => true) true fuel 42 l = some x := h
  obtain ⟨c, hc, rfl⟩ := open_c h'
  exact ⟨c, rfl, hc⟩
set_option maxRecDepth 100000 in
theorem open_nval {H : Type} {enc : TypeId × Value → H} {w : World} {r : Reach} {b fuel : Nat} {v : Value} {x : DataW H × List MemPlace} (hval : Value.okWide Tryd.prog w r b 40 v)
    (h : DataW.trod enc Tryd.prog w 0 (fun _ => true) true fuel 40 v.cells.toList = some x) : ∃ c : NameV, v = .agg c.cells.toArray ∧ c.good := by
  unfold Value.okWide at hval
  rw [Tryd.underlying40] at hval
  obtain ⟨⟨l⟩, rfl, hs, _⟩ := hval
  have h' : DataW.trod enc Tryd.prog w 0 (fun _ => true) true fuel 40 l = some x := h
  obtain ⟨c, hc, rfl⟩ := open_name h'
  exact ⟨c, rfl, hc⟩
/-- A list of changes as an argument. -/
theorem open_cl {H : Type} {enc : TypeId × Value → H} {w : World} {fuel : Nat} {a : Option Addr} {len cap : Nat} {x : DataW H × List MemPlace}
    (h : DataW.trod enc Tryd.prog w 0 (fun _ => true) true fuel 22 [.slice a len cap] = some x) :
    ∃ cs : List CV, CL w (Old w) a len cs ∧ (∀ c ∈ cs, c.good) ∧ len ≤ cap ∧ cap ≤ 9223372036854775807 := by
  rcases open_slice Tryd.underlying22 h with ⟨hcs, _⟩ | ⟨ad, l', c', m, n, D, Pl, hcs, _, hl, hm, hmm, _, hi⟩
  · simp only [List.cons.injEq, Value.slice.injEq, and_true] at hcs
    obtain ⟨rfl, rfl, rfl⟩ := hcs
    exact ⟨[], ⟨Rd.none_, rfl⟩, by simp, Nat.le_refl _, Nat.zero_le _⟩
  · simp only [List.cons.injEq, Value.slice.injEq, and_true] at hcs
    obtain ⟨rfl, rfl, rfl⟩ := hcs
    simp only [if_true] at hmm
    rw [cellsC] at hi
    have hel : ∀ i, i < len → ∃ c : CV, c.good ∧ ∀ j u, c.cells[j]? = some u → w.cell? ((ad.add (i * 7)).add j) = some u := by
      intro i hil
      obtain ⟨cs', hc, ht'⟩ := hi i (by omega)
      obtain ⟨c, hg, hcc⟩ := open_c ht'
      obtain ⟨_, hcl, hat⟩ := World.cells?_some hc
      refine ⟨c, hg, fun j u hu => ?_⟩
      have hj : j < 7 := by
        have := (List.getElem?_eq_some_iff.1 hu).1
        simpa [CV.cells, NameV.cells] using this
      rw [hat j hj, ← hu, ← hcc]
    obtain ⟨l, h1, h2, h3⟩ := rd_of_elems CV.cells 7 CV.good (fun c => c.cells_length) (by omega) hel
    exact ⟨l, ⟨h3, h1⟩, h2, hl, by unfold maxLen at hm; exact hm⟩
end Go.Proofs.YtpnchdgplpdefaaDoor
