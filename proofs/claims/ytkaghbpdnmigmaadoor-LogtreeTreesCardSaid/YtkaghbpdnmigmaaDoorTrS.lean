/- LogtreeTrees: the three walks together: written by genTrO.py. -/
import Derived.Test.YtkaghbpdnmigmaaDoorTrP
import Derived.Test.YtkaghbpdnmigmaaDoorTrQ
import Derived.Test.YtkaghbpdnmigmaaDoorTrR
namespace Go.Proofs.YtkaghbpdnmigmaaDoor
open Go.RowKit

theorem LogtreeTrees_any (n0 s0 : Int) (p : Int × Int) (w : World) (hn0 : 0 ≤ n0 ∧ n0 ≤ 255) (hs0 : 0 ≤ s0 ∧ s0 ≤ 255) (hp : (-9223372036854775808 ≤ p.1 ∧ p.1 ≤ 9223372036854775807) ∧ (-9223372036854775808 ≤ p.2 ∧ p.2 ≤ 9223372036854775807)) (hT : ShaTab w) :
    Calls Tryd.prog 8 #[.int .u8 n0, .int .u8 s0, .agg #[.int .i64 p.1, .int .i64 p.2]] w (Same' w (.bool true)) := by
  obtain ⟨a, b⟩ := p
  obtain ⟨ha, hb⟩ := hp
  simp only at ha hb ⊢
  by_cases h : a < 0
  · exact trees_neg n0 s0 b a ha.1 h w hn0 hs0 hb hT
  · obtain ⟨k, rfl⟩ : ∃ k : Nat, a = k := ⟨a.toNat, by omega⟩
    rcases Nat.lt_or_ge k (n0.toNat % 41) with h2 | h2
    · exact trees_in n0 s0 b k h2 w hn0 hs0 hb hT
    · exact trees_big n0 s0 b k ha.2 h2 w hn0 hs0 hb hT
end Go.Proofs.YtkaghbpdnmigmaaDoor
