/- The walk of the law CodecParses. -/
import Derived.Test.YtfdcmjjafngonaaDoorCodecD
import Derived.Test.YtfdcmjjafngonaaDoorGwA
namespace Go.Proofs.YtfdcmjjafngonaaDoor
open Go.RowKit

theorem Rd.drewN {w : World} {S : Nat → Prop} {size n : Nat} {A : Option Addr} {xs : List Value} (h : Rd w S size A n xs) : Rd w.drew S size A n xs := h

theorem Rd.upto {w : World} {S : Nat → Prop} {A : Option Addr} {n : Nat} {l : List UInt8} (h : Rd w S 1 A n (l.map bv)) (m : Nat) : Rd w S 1 A (min n m) ((l.take m).map bv) := by
  have hl : l.length = n := by simpa using h.1
  have := h.take (k := min n m) (Nat.min_le_left _ _)
  rw [Nat.mul_one, ← List.map_take] at this
  have e : l.take (min n m) = l.take m := by
    rcases Nat.le_total n m with h1 | h1
    · rw [Nat.min_eq_left h1, List.take_of_length_le (by omega), List.take_of_length_le (by omega)]
    · rw [Nat.min_eq_right h1]
  rw [e] at this
  exact this

end Go.Proofs.YtfdcmjjafngonaaDoor