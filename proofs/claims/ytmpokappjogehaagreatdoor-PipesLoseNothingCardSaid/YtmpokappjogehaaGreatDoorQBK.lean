/- Steps of the proof of LawPipesLoseNothing: contracts of the functions that the law reaches, for every world that holds what each of them asks. -/
import Derived.Test.YtmpokappjogehaaGreatDoorQAI
import Derived.Test.YtmpokappjogehaaGreatDoorCards
import Derived.ChangeArms
import Derived.ProofKit
import Derived.LaidMore
import Derived.Lib.LaidTab
import Derived.Test.YtmpokappjogehaaGreatDoorQBJ
import Derived.OpenShut
import Derived.ChangeSlices
set_option linter.unusedVariables false
set_option linter.unusedSimpArgs false
namespace Go.Proofs.YtmpokappjogehaaGreatDoor
open Go.ChangeShapes Go.WideShapes Go.ChangeAt Go.RowKit

theorem cellsInt : Tryz.prog.cellsOf 3 = 1 := by kernel_rfl
theorem cellsStr : Tryz.prog.cellsOf 9 = 1 := by kernel_rfl
theorem cellsBool : Tryz.prog.cellsOf 4 = 1 := by kernel_rfl
theorem cellsUsa : Tryz.prog.cellsOf 306 = 6 := by kernel_rfl
theorem cellsUsas : Tryz.prog.cellsOf 307 = 126 := by kernel_rfl
theorem g_usages : Tryz.prog.globalNamed "replevin/object.usages" = some 0 := by kernel_rfl
theorem ty_usages : (Tryz.prog.globals[0]?).map (·.type) = some 307 := by kernel_rfl

def Usa.datum {H : Type} (u : Usa) : DataW H := .agg [.lit (.string u.word.data.toList), .lit (.bool u.owner), .lit (.bool u.number), .lit (.bool u.index), .lit (.bool u.text), .lit (.int .i64 u.most)]
set_option maxRecDepth 100000 in
theorem usa_laid : (Rows.laid_replevin_object_usages : DataW Unit) = .agg (usaL.map Usa.datum) := by kernel_rfl
set_option maxRecDepth 100000 in
theorem open_usa {H : Type} {enc : TypeId × Value → H} {w : World} {base : Nat} {sp : Nat → Bool} {held : Bool} {fuel : Nat} {l : List Value} {u : Usa} {x : DataW H × List MemPlace} (hx : x.1 = u.datum)
    (h : DataW.trod enc Tryz.prog w base sp held fuel 306 l = some x) : l = u.cells := by
  obtain ⟨ys, n', _, rfl, hcl, hyl, hf⟩ := DataW.trod_struct Tryz.underlying306 h
  rw [cellsUsa] at hcl
  match l, hcl with
  | [x0, x1, x2, x3, x4, x5], _ =>
    have g0 := hf 0 _ rfl
    have g1 := hf 1 _ rfl
    have g2 := hf 2 _ rfl
    have g3 := hf 3 _ rfl
    have g4 := hf 4 _ rfl
    have g5 := hf 5 _ rfl
    match ys, hyl with
    | [y0, y1, y2, y3, y4, y5], _ =>
      simp [cellsInt, cellsStr, cellsBool] at g0 g1 g2 g3 g4 g5
      obtain ⟨a0, e0, rfl, _⟩ := DataW.trod_string Tryz.underlying9 g0
      obtain ⟨a1, e1, rfl⟩ := DataW.trod_bool Tryz.underlying4 g1
      obtain ⟨a2, e2, rfl⟩ := DataW.trod_bool Tryz.underlying4 g2
      obtain ⟨a3, e3, rfl⟩ := DataW.trod_bool Tryz.underlying4 g3
      obtain ⟨a4, e4, rfl⟩ := DataW.trod_bool Tryz.underlying4 g4
      obtain ⟨a5, e5, rfl, _⟩ := DataW.trod_int Tryz.underlying3 g5
      simp only [List.cons.injEq, and_true] at e0 e1 e2 e3 e4 e5
      subst e0 e1 e2 e3 e4 e5
      simp only [Usa.datum, List.map_cons, List.map_nil, DataW.agg.injEq, List.cons.injEq, DataW.lit.injEq, Lit.string.injEq, Lit.bool.injEq, Lit.int.injEq, and_true, true_and] at hx
      obtain ⟨h0, h1, h2, h3, h4, h5⟩ := hx
      have hw : a0 = u.word := by
        cases a0
        cases hu : u.word
        rw [hu] at h0
        simpa [Array.toList_inj] using h0
      rw [Usa.cells, hw, h1, h2, h3, h4, h5]

theorem usa_of {W : World} {rest : List (String × DataW Unit)} (h : laidMet Tryz.prog (("replevin/object.usages", Rows.laid_replevin_object_usages) :: rest) W) : UsaT W := by
  obtain ⟨ps, ⟨g', t', cs, fuel, p, q, hg', ht', hvar, hd, _, _⟩, _⟩ := h
  obtain rfl := Option.some.inj (g_usages.symm.trans hg')
  obtain rfl := Option.some.inj (ty_usages.symm.trans ht')
  obtain ⟨xs, m, _, hx, hl, hxl, hi⟩ := DataW.trod_array Tryz.underlying307 hd
  rw [cellsUsas] at hl
  refine ⟨fun k u hk j v hv => ?_⟩
  have hk' : k < 21 := by
    have := (List.getElem?_eq_some_iff.1 hk).1
    simpa [usaL] using this
  have g := hi k hk'
  rw [cellsUsa, List.getElem?_eq_getElem (by omega)] at g
  have hdat : (xs[k]).1 = u.datum := by
    rw [usa_laid] at hx
    simp only [Prod.mk.injEq, DataW.agg.injEq] at hx
    have h2 := congrArg (·[k]?) hx.1
    simp only [List.getElem?_map, hk, Option.map_some, List.getElem?_eq_getElem (show k < xs.length by omega), Option.some.injEq] at h2
    exact h2.symm
  have hc := open_usa hdat g
  have hj : j < 6 := by
    have := (List.getElem?_eq_some_iff.1 hv).1
    simpa [Usa.cells] using this
  refine World.var?_cell g_usages hvar (k * 6 + j) |>.trans ?_
  rw [← hc, List.getElem?_take_of_lt hj, List.getElem?_drop] at hv
  simpa using hv
end Go.Proofs.YtmpokappjogehaaGreatDoor

namespace Go.Proofs.YtmpokappjogehaaGreatDoor
open Go.ChangeShapes Go.WideShapes Go.ChangeAt Go.RowKit
theorem bounds_b {z : Int} (h : (Lit.int .u8 z).wf = true) : 0 ≤ z ∧ z ≤ 255 := by
  have h' : IntKind.u8.min ≤ z ∧ z ≤ IntKind.u8.max := by simpa [Lit.wf] using h
  exact h'
/-- A []byte that came in. -/
theorem open_bytes {H : Type} {enc : TypeId × Value → H} {w : World} {fuel : Nat} {a : Option Addr} {len cap : Nat} {x : DataW H × List MemPlace}
    (h : DataW.trod enc Tryz.prog w 0 (fun _ => true) true fuel 22 [.slice a len cap] = some x) :
    ∃ l : List UInt8, Rd w (Old w) 1 a len (l.map bv) ∧ True ∧ len ≤ cap ∧ cap ≤ 9223372036854775807 := by
  rcases open_ints Tryz.underlying22 Tryz.underlying5 (by kernel_rfl) h with ⟨hcs, _⟩ | ⟨x, l, c, zs, hcs, _, hl, hm, hz, _, hc, hw⟩
  · simp only [List.cons.injEq, Value.slice.injEq, and_true] at hcs
    obtain ⟨rfl, rfl, rfl⟩ := hcs
    exact ⟨[], Rd.none_, trivial, Nat.le_refl _, Nat.zero_le _⟩
  · simp only [List.cons.injEq, Value.slice.injEq, and_true] at hcs
    obtain ⟨rfl, rfl, rfl⟩ := hcs
    replace hz : zs.length = cap := by simpa using hz
    refine ⟨(zs.take len).map (fun z => UInt8.ofNat z.toNat), ⟨by simp; omega, fun hn => ⟨x, rfl, ?_, fun j u hu => ?_⟩⟩, trivial, hl, by unfold maxLen at hm; exact hm⟩
    · have := World.block_lt_of_cell? w _ (hc 0 (by omega))
      rw [block_of_add] at this
      exact this
    · rw [List.map_map] at hu
      rw [List.getElem?_map] at hu
      cases hj : (zs.take len)[j]? with
      | none => simp [hj] at hu
      | some z =>
        rw [hj] at hu
        simp only [Option.map_some, Function.comp, Option.some.injEq] at hu
        have hjl : j < (zs.take len).length := (List.getElem?_eq_some_iff.1 hj).1
        have hjz : j < zs.length := by simp at hjl; omega
        have hze : zs[j]? = some z := by rw [List.getElem?_take] at hj; split at hj; exact hj; cases hj
        have hmem : z ∈ zs := List.mem_of_getElem? hze
        have hb := bounds_b (hw z hmem)
        rw [hc j hjz, List.getD_eq_getElem?_getD, hze, Option.getD_some, ← hu]
        unfold bv
        rw [UInt8.toNat_ofNat_of_lt' (by simp; omega)]
        congr 2
        omega
/-- The cells of a datum of plain cells. -/
def cellsOfD {H : Type} : Nat → DataW H → List Value
  | 0, _ => []
  | n + 1, .agg l => l.flatMap (cellsOfD n)
  | _ + 1, .lit (.int k z) => [.int k z]
  | _ + 1, .lit (.bool b) => [.bool b]
  | _ + 1, .lit (.string s) => [.string ⟨s.toArray⟩]
  | _ + 1, _ => []
end Go.Proofs.YtmpokappjogehaaGreatDoor
