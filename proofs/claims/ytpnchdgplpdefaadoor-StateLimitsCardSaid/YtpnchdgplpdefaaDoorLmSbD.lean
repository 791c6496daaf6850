/- State: the reference's Parse (written by genSbD.py). -/
import Derived.Test.YtpnchdgplpdefaaDoorLmSaX
namespace Go.Proofs.YtpnchdgplpdefaaDoor
open Go.RowKit Go.Shelf
def RParsed (w : World) (s : ByteArray) (e : Ending) (w' : World) : Prop := ∃ v a k, e = .returned (.tuple #[v, .int .i64 a, .int .i64 k]) ∧ (k == 0) = validO s ∧ Fr Nothing w w' ∧ (validO s = true → Grew 3 1 w (.slice none 0 0) w' v (ordsO s).length ((ordsO s).map (Value.int .i64)))
theorem RParsed.bad {w w' : World} {s : ByteArray} {v : Value} {a k : Int} (hv : validO s = false) (hk : k ≠ 0) (hf : Fr Nothing w w') : RParsed w s (.returned (.tuple #[v, .int .i64 a, .int .i64 k])) w' :=
 ⟨v, a, k, rfl, by rw [hv, beq_eq_false_iff_ne]; exact hk, hf, fun h => by rw [hv] at h; cases h⟩
end Go.Proofs.YtpnchdgplpdefaaDoor
