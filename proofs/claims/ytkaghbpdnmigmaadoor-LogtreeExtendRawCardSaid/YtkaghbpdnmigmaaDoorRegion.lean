/- A region that draws its order, walked once, in a class of worlds of one's own: the worlds that a predicate holds of. Plain lemmas over any program. -/
import Derived.Test.YtkaghbpdnmigmaaDoorBase
import Derived.Deep.QuietTactic
import Derived.BigQuiet
namespace Go.Proofs.YtkaghbpdnmigmaaDoor
open Go.RowKit

/-- A world of a class. -/
structure In (C : World → Prop) where
  w : World
  h : C w

def InC (C : World → Prop) : World → Prop := fun w' => ∃ x : In C, w' = x.w

theorem wp_region_in {P : Program} {id : Nat} {Q : Exit → Act → World → Prop} {a : Act} {w : World} {l : List Oper} (C : World → Prop) (hC : C w.drew) (hm : P.follows .mixedOrders = true) (hB : Region.lexB .any l.toArray = true)
    (h : wpQuiet P l.toArray (fun w' => ∃ x : In C, w' = x.w) (fun a' => ∀ w', (∃ x : In C, w' = x.w) → Q .normal a' w') l a) : (Code.region id l.toArray true).wp P Q a w :=
  wp_region_quiet (C := fun w' => ∃ x : In C, w' = x.w) hm hB ⟨⟨w.drew, hC⟩, rfl⟩ (by simpa using h)

/-- A call, met in a world of the class: one value, and a world of the class. -/
theorem In.call {P : Program} {f : FuncId} {args : Array Value} {C : World → Prop} {x : In C} {v : Value}
    (h : Calls P f args x.w fun e w' => e = .returned v ∧ C w') : Calls P f args x.w fun e w'' => e = .returned v ∧ ∃ y : In C, w'' = y.w :=
  h.mono fun _ w' ⟨he, hc⟩ => ⟨he, ⟨w', hc⟩, rfl⟩

/-- A call that leaves the world as it was. -/
theorem In.same {P : Program} {f : FuncId} {args : Array Value} {C : World → Prop} {x : In C} {v : Value}
    (h : Calls P f args x.w fun e w' => e = .returned v ∧ x.w = w') : Calls P f args x.w fun e w'' => e = .returned v ∧ ∃ y : In C, w'' = y.w :=
  h.mono fun _ _ ⟨he, hw⟩ => ⟨he, x, hw.symm⟩

/-- The worlds that have grown out of w0 and have turned none of its blocks. -/
abbrev Later (w0 : World) : World → Prop := fun w => Fr Nothing w0 w

instance Later.ne (w0 : World) : Nonempty (In (Later w0)) := ⟨⟨w0, Fr.refl _ _⟩⟩

theorem In.later {P : Program} {f : FuncId} {args : Array Value} {w0 : World} {x : In (Later w0)} {v : Value}
    (h : Calls P f args x.w fun e w' => e = .returned v ∧ Fr Nothing x.w w') : Calls P f args x.w fun e w'' => e = .returned v ∧ ∃ y : In (Later w0), w'' = y.w :=
  In.call (h.mono fun _ _ ⟨he, hf⟩ => ⟨he, x.h.trans hf⟩)
end Go.Proofs.YtkaghbpdnmigmaaDoor
