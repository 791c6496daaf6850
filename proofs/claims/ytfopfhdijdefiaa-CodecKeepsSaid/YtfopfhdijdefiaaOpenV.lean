/- An argument of type []V, opened to a list. -/
import Derived.Test.YtfopfhdijdefiaaElems
import Derived.Test.YtfopfhdijdefiaaCodecV
namespace Go.Proofs.Ytfopfhdijdefiaa
open Go.RowKit Go.ChangeShapes Go.WideShapes Go.Deep

theorem openV {H : Type} {enc : TypeId × Value → H} {w : World} {fuel : Nat} {a : Option Addr} {len cap : Nat} {x : DataW H × List MemPlace}
    (h : DataW.trod enc Try.prog w 0 (fun _ => true) true fuel 32 [.slice a len cap] = some x) :
    ∃ l : List VV, Rd w (Old w) 5 a len (vcells l) ∧ (∀ v ∈ l, v.ok) ∧ len ≤ cap ∧ cap ≤ 9223372036854775807 := by
  rcases open_slice Try.underlying32 h with ⟨hcs, _⟩ | ⟨ad, l', c', m, n, D, Pl, hcs, _, hl, hm, hmm, _, hi⟩
  · simp only [List.cons.injEq, Value.slice.injEq, and_true] at hcs
    obtain ⟨rfl, rfl, rfl⟩ := hcs
    exact ⟨[], Rd.none_, by simp, Nat.le_refl _, Nat.zero_le _⟩
  · simp only [List.cons.injEq, Value.slice.injEq, and_true] at hcs
    obtain ⟨rfl, rfl, rfl⟩ := hcs
    simp only [if_true] at hmm
    have hC : Try.prog.cellsOf 47 = 5 := by kernel_rfl
    rw [hC] at hi
    have hel : ∀ i, i < len → ∃ v : VV, v.ok ∧ ∀ j u, (VV.cells v)[j]? = some u → w.cell? ((ad.add (i * 5)).add j) = some u := by
      intro i hil
      obtain ⟨cs', hc, ht'⟩ := hi i (by omega)
      obtain ⟨ys, n', _, _, hcl', hyl, hf⟩ := DataW.trod_struct Try.underlying47 ht'
      obtain ⟨_, hcl, hat⟩ := World.cells?_some hc
      match cs', hcl with
      | [x0, x1, x2, x3, x4], _ =>
        have g0 := hf 0 _ rfl
        have g1 := hf 1 _ rfl
        have g2 := hf 2 _ rfl
        have g3 := hf 3 _ rfl
        have g4 := hf 4 _ rfl
        match ys, hyl with
        | [y0, y1, y2, y3, y4], _ =>
          have k3 : Try.prog.cellsOf 3 = 1 := by kernel_rfl
          have k4 : Try.prog.cellsOf 4 = 1 := by kernel_rfl
          have k5 : Try.prog.cellsOf 5 = 1 := by kernel_rfl
          have k9 : Try.prog.cellsOf 9 = 1 := by kernel_rfl
          simp [k3, k4, k5, k9] at g0 g1 g2 g3 g4
          obtain ⟨a0, e0, _, b0⟩ := DataW.trod_int Try.underlying5 g0
          obtain ⟨a1, e1, _, b1⟩ := DataW.trod_int Try.underlying3 g1
          obtain ⟨a2, e2, _⟩ := DataW.trod_bool Try.underlying4 g2
          obtain ⟨a3, e3, _, b3⟩ := DataW.trod_string Try.underlying9 g3
          obtain ⟨a4, e4, _, b4⟩ := DataW.trod_int Try.underlying3 g4
          have r0 := bounds_u8 b0
          have r1 := bounds_i64 b1
          have r4 := bounds_i64 b4
          unfold maxLen at b3
          simp only [List.cons.injEq, and_true] at e0 e1 e2 e3 e4
          subst e0 e1 e2 e3 e4
          refine ⟨⟨a0.toNat, a1, a2, a3, a4⟩, ⟨by simp only; omega, r1.1, r1.2, b3, r4.1, r4.2⟩, fun j u hu => ?_⟩
          have hj : j < 5 := by
            have := (List.getElem?_eq_some_iff.1 hu).1
            simpa [VV.cells] using this
          rw [hat j hj, ← hu]
          have ea : ((a0.toNat : Nat) : Int) = a0 := by omega
          simp [VV.cells, ea]
    obtain ⟨l, h1, h2, h3⟩ := rd_of_elems VV.cells 5 VV.ok (fun v => by simp [VV.cells]) (by omega) hel
    exact ⟨l, h3, h2, hl, by unfold maxLen at hm; exact hm⟩
end Go.Proofs.Ytfopfhdijdefiaa
