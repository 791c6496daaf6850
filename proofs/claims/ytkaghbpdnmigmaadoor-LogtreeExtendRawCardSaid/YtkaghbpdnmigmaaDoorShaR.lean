/- A text that is hashed piece by piece: plain. -/
import Derived.Test.YtkaghbpdnmigmaaDoorShaQ
namespace Go.Proofs.YtkaghbpdnmigmaaDoor

/-- The bytes behind the whole blocks of M lie at the beginning of rest. -/
def HashOk (M rest : List UInt8) : Prop := rest.length = 64 ∧ rest.take (M.length % 64) = M.drop (64 * (M.length / 64))
def laidOver (rest : List UInt8) (a : Nat) (X : List UInt8) : List UInt8 := rest.take a ++ X ++ rest.drop (a + X.length)

theorem laidOver_length {rest : List UInt8} {a : Nat} {X : List UInt8} (h : rest.length = 64) (hx : a + X.length ≤ 64) : (laidOver rest a X).length = 64 := by
  simp [laidOver]; omega

theorem hash_more {M rest X : List UInt8} (h : HashOk M rest) (hx : M.length % 64 + X.length < 64) :
    HashOk (M ++ X) (laidOver rest (M.length % 64) X) ∧ runB initS (M ++ X) ((M ++ X).length / 64) = runB initS M (M.length / 64) := by
  have hl : (M ++ X).length = M.length + X.length := List.length_append
  have hd : (M ++ X).length / 64 = M.length / 64 := by rw [hl]; omega
  have hm : (M ++ X).length % 64 = M.length % 64 + X.length := by rw [hl]; omega
  refine ⟨⟨laidOver_length h.1 (by omega), ?_⟩, ?_⟩
  · rw [hm, hd, List.drop_append_of_le_length (by omega), ← h.2, laidOver]
    rw [List.take_left' (by have := h.1; simp; omega)]
  · rw [hd]
    exact runB_append initS M X _ (by omega)

theorem hash_full {M rest X : List UInt8} (h : HashOk M rest) (hx : M.length % 64 + X.length = 64) :
    HashOk (M ++ X) (laidOver rest (M.length % 64) X) ∧ runB initS (M ++ X) ((M ++ X).length / 64) = blockS (runB initS M (M.length / 64)) (laidOver rest (M.length % 64) X) := by
  have hl : (M ++ X).length = M.length + X.length := List.length_append
  have hd : (M ++ X).length / 64 = M.length / 64 + 1 := by rw [hl]; omega
  have hm : (M ++ X).length % 64 = 0 := by rw [hl]; omega
  refine ⟨⟨laidOver_length h.1 (by omega), ?_⟩, ?_⟩
  · rw [hm, hd, List.take_zero, List.drop_of_length_le (by rw [hl]; omega)]
  · rw [hd, runB, runB_append initS M X _ (by omega), List.drop_append_of_le_length (by omega), ← h.2]
    congr 1
    rw [laidOver, List.drop_of_length_le (by have := h.1; omega), List.append_nil]
    exact List.take_of_length_le (by have := h.1; simp; omega)

theorem hash_nil (rest : List UInt8) (h : rest.length = 64) : HashOk [] rest := ⟨h, rfl⟩
theorem hash_ok (M rest : List UInt8) (h : HashOk M rest) : M = M.take (64 * (M.length / 64)) ++ rest.take (M.length % 64) := by
  rw [h.2, List.take_append_drop]
end Go.Proofs.YtkaghbpdnmigmaaDoor
