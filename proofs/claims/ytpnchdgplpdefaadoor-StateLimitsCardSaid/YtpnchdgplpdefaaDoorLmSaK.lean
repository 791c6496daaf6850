/- State: what a law's arguments and tables are. -/
import Derived.Test.YtpnchdgplpdefaaDoorLmSaH
import Derived.Test.YtpnchdgplpdefaaDoorCards
import Derived.ChangeArms
import Derived.ProofKit
import Derived.LaidMore
import Derived.Lib.LaidTab
namespace Go.Proofs.YtpnchdgplpdefaaDoor
open Go.ChangeShapes Go.WideShapes Go.ChangeAt Go.RowKit
theorem cellsInt : Tryd.prog.cellsOf 3 = 1 := by kernel_rfl
theorem cellsStr : Tryd.prog.cellsOf 9 = 1 := by kernel_rfl
theorem cellsBool : Tryd.prog.cellsOf 4 = 1 := by kernel_rfl
theorem cellsUsa : Tryd.prog.cellsOf 110 = 6 := by kernel_rfl
theorem cellsUsas : Tryd.prog.cellsOf 111 = 126 := by kernel_rfl
theorem g_usages : Tryd.prog.globalNamed "replevin/object.usages" = some 0 := by kernel_rfl
theorem ty_usages : (Tryd.prog.globals[0]?).map (·.type) = some 111 := by kernel_rfl
def Usa.datum {H : Type} (u : Usa) : DataW H := .agg [.lit (.string u.word.data.toList), .lit (.bool u.owner), .lit (.bool u.number), .lit (.bool u.index), .lit (.bool u.text), .lit (.int .i64 u.most)]
set_option maxRecDepth 100000 in
theorem usa_laid : (Rows.laid_replevin_object_usages : DataW Unit) = .agg (usaL.map Usa.datum) := by kernel_rfl
set_option maxRecDepth 100000 in
theorem open_usa {H : Type} {enc : TypeId × Value → H} {w : World} {base : Nat} {sp : Nat → Bool} {held : Bool} {fuel : Nat} {l : List Value} {u : Usa} {x : DataW H × List MemPlace} (hx : x.1 = u.datum)
  (h : DataW.trod enc Tryd.prog w base sp held fuel 110 l = some x) : l = u.cells := by
 obtain ⟨ys, n', _, rfl, hcl, hyl, hf⟩ := DataW.trod_struct Tryd.underlying110 h
 rw [cellsUsa] at hcl
 match l, hcl with
 | [x0, x1, x2, x3, x4, x5], _ =>
  have g0 := hf 0 _ rfl
  have g1 := hf 1 _ rfl
  have g2 := hf 2 _ rfl
  have g3 := hf 3 _ rfl
  have g4 := hf 4 _ rfl
  have g5 := hf 5 _ rfl
  match ys, hyl with
  | [y0, y1, y2, y3, y4, y5], _ =>
   simp [cellsInt, cellsStr, cellsBool] at g0 g1 g2 g3 g4 g5
   obtain ⟨a0, e0, rfl, _⟩ := DataW.trod_string Tryd.underlying9 g0
   obtain ⟨a1, e1, rfl⟩ := DataW.trod_bool Tryd.underlying4 g1
   obtain ⟨a2, e2, rfl⟩ := DataW.trod_bool Tryd.underlying4 g2
   obtain ⟨a3, e3, rfl⟩ := DataW.trod_bool Tryd.underlying4 g3
   obtain ⟨a4, e4, rfl⟩ := DataW.trod_bool Tryd.underlying4 g4
   obtain ⟨a5, e5, rfl, _⟩ := DataW.trod_int Tryd.underlying3 g5
   simp only [List.cons.injEq, and_true] at e0 e1 e2 e3 e4 e5
   subst e0 e1 e2 e3 e4 e5
   simp only [Usa.datum, List.map_cons, List.map_nil, DataW.agg.injEq, List.cons.injEq, DataW.lit.injEq, Lit.string.injEq, Lit.bool.injEq, Lit.int.injEq, and_true, true_and] at hx
   obtain ⟨h0, h1, h2, h3, h4, h5⟩ := hx
   have hw : a0 = u.word := by
    cases a0
    cases hu : u.word
    rw [hu] at h0
    simpa [Array.toList_inj] using h0
   rw [Usa.cells, hw, h1, h2, h3, h4, h5]
theorem usa_of {W : World} {rest : List (String × DataW Unit)} (h : laidMet Tryd.prog (("replevin/object.usages", Rows.laid_replevin_object_usages) :: rest) W) : UsaT W := by
 obtain ⟨ps, ⟨g', t', cs, fuel, p, q, hg', ht', hvar, hd, _, _⟩, _⟩ := h
 obtain rfl := Option.some.inj (g_usages.symm.trans hg')
 obtain rfl := Option.some.inj (ty_usages.symm.trans ht')
 obtain ⟨xs, m, _, hx, hl, hxl, hi⟩ := DataW.trod_array Tryd.underlying111 hd
 rw [cellsUsas] at hl
 refine ⟨fun k u hk j v hv => ?_⟩
 have hk' : k < 21 := by
  have := (List.getElem?_eq_some_iff.1 hk).1
  simpa [usaL] using this
 have g := hi k hk'
 rw [cellsUsa, List.getElem?_eq_getElem (by omega)] at g
 have hdat : (xs[k]).1 = u.datum := by
  rw [usa_laid] at hx
  simp only [Prod.mk.injEq, DataW.agg.injEq] at hx
  have h2 := congrArg (·[k]?) hx.1
  simp only [List.getElem?_map, hk, Option.map_some, List.getElem?_eq_getElem (show k < xs.length by omega), Option.some.injEq] at h2
  exact h2.symm
 have hc := open_usa hdat g
 have hj : j < 6 := by
  have := (List.getElem?_eq_some_iff.1 hv).1
  simpa [Usa.cells] using this
 refine World.var?_cell g_usages hvar (k * 6 + j) |>.trans ?_
 rw [← hc, List.getElem?_take_of_lt hj, List.getElem?_drop] at hv
 simpa using hv
end Go.Proofs.YtpnchdgplpdefaaDoor
