/- SHA-256 of a text, in plain Lean: blocks one after the other, the padded text, the digest; joined texts. -/
import Derived.Test.YtkaghbpdnmigmaaDoorShaP
namespace Go.Proofs.YtkaghbpdnmigmaaDoor

def oct (n : Nat) : UInt8 := UInt8.ofNat n

/-- The state after the first k blocks of a text. -/
def runB (s : St8) (l : List UInt8) : Nat → St8
  | 0 => s
  | k + 1 => blockS (runB s l k) ((l.drop (64 * k)).take 64)

/-- The eight bytes of the length in bits of a text of n bytes. -/
def len8 (n : Nat) : List UInt8 := [oct (8 * n / 72057594037927936), oct (8 * n / 281474976710656), oct (8 * n / 1099511627776), oct (8 * n / 4294967296), oct (8 * n / 16777216), oct (8 * n / 65536), oct (8 * n / 256), oct (8 * n)]
def padL (l : List UInt8) : List UInt8 := l ++ 128 :: (List.replicate ((119 - l.length % 64) % 64) 0 ++ len8 l.length)
/-- The four bytes of a word. -/
def wBytes (x : Nat) : List UInt8 := [oct (x / 16777216), oct (x / 65536), oct (x / 256), oct x]
def digestS (s : St8) : List UInt8 := wBytes s.a ++ wBytes s.b ++ wBytes s.c ++ wBytes s.d ++ wBytes s.e ++ wBytes s.f ++ wBytes s.g ++ wBytes s.h
/-- The digest of a text. -/
def shaL (l : List UInt8) : List UInt8 := digestS (runB initS (padL l) ((padL l).length / 64))
/-- The text that stands for a tag and a list of texts. -/
def joinL (tag : UInt8) (ps : List (List UInt8)) : List UInt8 := tag :: oct ps.length :: ps.flatMap fun p => wBytes p.length ++ p

theorem digestS_length (s : St8) : (digestS s).length = 32 := rfl
theorem shaL_length (l : List UInt8) : (shaL l).length = 32 := rfl
theorem len8_length (n : Nat) : (len8 n).length = 8 := rfl
theorem padL_length (l : List UInt8) : (padL l).length = l.length + 9 + (119 - l.length % 64) % 64 := by
  simp only [padL, List.length_append, List.length_cons, List.length_replicate, len8_length]
  omega
theorem padL_mod (l : List UInt8) : (padL l).length % 64 = 0 := by rw [padL_length]; omega

theorem runB_ok (s : St8) (l : List UInt8) (h : s.ok) : ∀ k, (runB s l k).ok
  | 0 => h
  | _ + 1 => addS_ok _ _
theorem initS_ok : initS.ok := by constructor <;> decide
theorem runB_append (s : St8) (l r : List UInt8) : ∀ k, 64 * k ≤ l.length → runB s (l ++ r) k = runB s l k
  | 0, _ => rfl
  | k + 1, hk => by
    rw [runB, runB, runB_append s l r k (by omega)]
    congr 1
    rw [List.drop_append_of_le_length (by omega), List.take_append_of_le_length (by rw [List.length_drop]; omega)]
/-- One further block behind whole ones. -/
theorem runB_snoc (s : St8) (l b : List UInt8) (k : Nat) (hl : l.length = 64 * k) (hb : b.length = 64) (r : List UInt8) : runB s (l ++ (b ++ r)) (k + 1) = blockS (runB s l k) b := by
  rw [runB, runB_append s l _ k (by omega), ← hl, List.drop_left, ← hb, List.take_left]

/-- Behind the padded text: one block, or two. -/
theorem sha_short (m t : List UInt8) (q : Nat) (hm : m.length = 64 * q) (ht : t.length < 56) :
    shaL (m ++ t) = digestS (blockS (runB initS m q) (t ++ 128 :: (List.replicate (55 - t.length) 0 ++ len8 (64 * q + t.length)))) := by
  unfold shaL
  have hl : (m ++ t).length = 64 * q + t.length := by rw [List.length_append, hm]
  have hn : (padL (m ++ t)).length = 64 * (q + 1) := by rw [padL_length, hl]; omega
  rw [hn, Nat.mul_div_cancel_left _ (by omega : 0 < 64)]
  congr 1
  unfold padL
  rw [hl, show (119 - (64 * q + t.length) % 64) % 64 = 55 - t.length by omega, List.append_assoc]
  have := runB_snoc initS m (t ++ 128 :: (List.replicate (55 - t.length) 0 ++ len8 (64 * q + t.length))) q hm (by simp [len8_length]; omega) []
  rw [List.append_nil] at this
  exact this
theorem sha_long (m t : List UInt8) (q : Nat) (hm : m.length = 64 * q) (ht : 56 ≤ t.length) (ht2 : t.length < 64) :
    shaL (m ++ t) = digestS (blockS (blockS (runB initS m q) (t ++ 128 :: List.replicate (63 - t.length) 0)) (List.replicate 56 0 ++ len8 (64 * q + t.length))) := by
  unfold shaL
  have hl : (m ++ t).length = 64 * q + t.length := by rw [List.length_append, hm]
  have hn : (padL (m ++ t)).length = 64 * (q + 2) := by rw [padL_length, hl]; omega
  rw [hn, Nat.mul_div_cancel_left _ (by omega : 0 < 64)]
  congr 1
  unfold padL
  have hz : List.replicate (119 - t.length) (0 : UInt8) = List.replicate (63 - t.length) 0 ++ List.replicate 56 0 := by
    rw [List.replicate_append_replicate]; congr 1; omega
  rw [hl, show (119 - (64 * q + t.length) % 64) % 64 = 119 - t.length by omega, hz]
  have e : m ++ t ++ 128 :: (List.replicate (63 - t.length) 0 ++ List.replicate 56 0 ++ len8 (64 * q + t.length)) = (m ++ (t ++ 128 :: List.replicate (63 - t.length) 0)) ++ ((List.replicate 56 0 ++ len8 (64 * q + t.length)) ++ []) := by simp
  rw [e, runB_snoc initS _ _ (q + 1) (by simp [hm]; omega) (by simp [len8_length])]
  have := runB_snoc initS m (t ++ 128 :: List.replicate (63 - t.length) 0) q hm (by simp; omega) []
  rw [List.append_nil] at this
  rw [this]
end Go.Proofs.YtkaghbpdnmigmaaDoor
