/- SHA-256 in plain Lean, over natural numbers below 2^32. No program in sight. -/
import Derived.Test.YtkaghbpdnmigmaaDoorBase
namespace Go.Proofs.YtkaghbpdnmigmaaDoor

/-- A word rotated to the right by n bits. -/
def rotr (n x : Nat) : Nat := (x / 2 ^ n) ||| (x * 2 ^ (32 - n) % 4294967296)
def add32 (a b : Nat) : Nat := (a + b) % 4294967296
def xor32 (a b : Nat) : Nat := a ^^^ b
def and32 (a b : Nat) : Nat := a &&& b
def not32 (a : Nat) : Nat := 4294967295 - a

theorem or_lt32 {a b : Nat} (ha : a < 4294967296) (hb : b < 4294967296) : a ||| b < 4294967296 := Nat.or_lt_two_pow (n := 32) (by omega) (by omega)
theorem xor_lt32 {a b : Nat} (ha : a < 4294967296) (hb : b < 4294967296) : xor32 a b < 4294967296 := Nat.xor_lt_two_pow (n := 32) (by omega) (by omega)
theorem and_lt32 {a b : Nat} (ha : a < 4294967296) : and32 a b < 4294967296 := Nat.lt_of_le_of_lt Nat.and_le_left ha
theorem add_lt32 (a b : Nat) : add32 a b < 4294967296 := Nat.mod_lt _ (by omega)
theorem not_lt32 (a : Nat) : not32 a < 4294967296 := by unfold not32; omega
theorem rotr_lt (n x : Nat) (hx : x < 4294967296) : rotr n x < 4294967296 :=
  or_lt32 (Nat.lt_of_le_of_lt (Nat.div_le_self _ _) hx) (Nat.mod_lt _ (by omega))

theorem not_xor32 (a : Nat) (ha : a < 4294967296) : 4294967295 ^^^ a = not32 a := by
  have h1 : (BitVec.allOnes 32 ^^^ BitVec.ofNat 32 a).toNat = (~~~ (BitVec.ofNat 32 a)).toNat := by rw [BitVec.allOnes_xor]
  rw [BitVec.toNat_not, BitVec.toNat_xor, BitVec.toNat_allOnes, BitVec.toNat_ofNat, Nat.mod_eq_of_lt (by simpa using ha)] at h1
  simpa [not32] using h1

/-- The word of four bytes. -/
def word4 (a b c d : Nat) : Nat := a * 16777216 + b * 65536 + c * 256 + d

def sig0 (x : Nat) : Nat := xor32 (xor32 (rotr 7 x) (rotr 18 x)) (x / 8)
def sig1 (x : Nat) : Nat := xor32 (xor32 (rotr 17 x) (rotr 19 x)) (x / 1024)

def wAt (b : List UInt8) (t : Nat) : Nat := word4 ((b[4 * t]?.getD 0).toNat) ((b[4 * t + 1]?.getD 0).toNat) ((b[4 * t + 2]?.getD 0).toNat) ((b[4 * t + 3]?.getD 0).toNat)
/-- The schedule as a list that grows. -/
def schedL (b : List UInt8) : Nat → List Nat
  | 0 => []
  | t + 1 => schedL b t ++ [if t < 16 then wAt b t else
      add32 (add32 (add32 ((schedL b t)[t - 16]?.getD 0) (sig0 ((schedL b t)[t - 15]?.getD 0))) ((schedL b t)[t - 7]?.getD 0)) (sig1 ((schedL b t)[t - 2]?.getD 0))]

structure St8 where
  a : Nat
  b : Nat
  c : Nat
  d : Nat
  e : Nat
  f : Nat
  g : Nat
  h : Nat

structure St8.ok (s : St8) : Prop where
  a : s.a < 4294967296
  b : s.b < 4294967296
  c : s.c < 4294967296
  d : s.d < 4294967296
  e : s.e < 4294967296
  f : s.f < 4294967296
  g : s.g < 4294967296
  h : s.h < 4294967296

def roundP (s : St8) (k w : Nat) : Nat := add32 (add32 (add32 (add32 s.h (xor32 (xor32 (rotr 6 s.e) (rotr 11 s.e)) (rotr 25 s.e))) (xor32 (and32 s.e s.f) (and32 (not32 s.e) s.g))) k) w
def roundQ (s : St8) : Nat := add32 (xor32 (xor32 (rotr 2 s.a) (rotr 13 s.a)) (rotr 22 s.a)) (xor32 (xor32 (and32 s.a s.b) (and32 s.a s.c)) (and32 s.b s.c))
def round (s : St8) (k w : Nat) : St8 := ⟨add32 (roundP s k w) (roundQ s), s.a, s.b, s.c, add32 s.d (roundP s k w), s.e, s.f, s.g⟩

def kTab : List Nat := [1116352408, 1899447441, 3049323471, 3921009573, 961987163, 1508970993, 2453635748, 2870763221, 3624381080, 310598401, 607225278, 1426881987, 1925078388, 2162078206, 2614888103, 3248222580, 3835390401, 4022224774, 264347078, 604807628, 770255983, 1249150122, 1555081692, 1996064986, 2554220882, 2821834349, 2952996808, 3210313671, 3336571891, 3584528711, 113926993, 338241895, 666307205, 773529912, 1294757372, 1396182291, 1695183700, 1986661051, 2177026350, 2456956037, 2730485921, 2820302411, 3259730800, 3345764771, 3516065817, 3600352804, 4094571909, 275423344, 430227734, 506948616, 659060556, 883997877, 958139571, 1322822218, 1537002063, 1747873779, 1955562222, 2024104815, 2227730452, 2361852424, 2428436474, 2756734187, 3204031479, 3329325298]
def initS : St8 := ⟨1779033703, 3144134277, 1013904242, 2773480762, 1359893119, 2600822924, 528734635, 1541459225⟩

def rounds (w : List Nat) (s : St8) : Nat → St8
  | 0 => s
  | t + 1 => round (rounds w s t) (kTab[t]?.getD 0) (w[t]?.getD 0)
def addS (s v : St8) : St8 := ⟨add32 s.a v.a, add32 s.b v.b, add32 s.c v.c, add32 s.d v.d, add32 s.e v.e, add32 s.f v.f, add32 s.g v.g, add32 s.h v.h⟩
/-- The state after a block. -/
def blockS (s : St8) (b : List UInt8) : St8 := addS s (rounds (schedL b 64) s 64)

theorem St8.okRound (s : St8) (k w : Nat) (h : s.ok) : (round s k w).ok :=
  ⟨add_lt32 _ _, h.a, h.b, h.c, add_lt32 _ _, h.e, h.f, h.g⟩
theorem rounds_ok (w : List Nat) (s : St8) (h : s.ok) : ∀ t, (rounds w s t).ok
  | 0 => h
  | t + 1 => St8.okRound _ _ _ (rounds_ok w s h t)
theorem addS_ok (s v : St8) : (addS s v).ok := ⟨add_lt32 _ _, add_lt32 _ _, add_lt32 _ _, add_lt32 _ _, add_lt32 _ _, add_lt32 _ _, add_lt32 _ _, add_lt32 _ _⟩

theorem wAt_lt (b : List UInt8) (t : Nat) : wAt b t < 4294967296 := by
  unfold wAt word4
  have h1 := (b[4 * t]?.getD 0).toNat_lt
  have h2 := (b[4 * t + 1]?.getD 0).toNat_lt
  have h3 := (b[4 * t + 2]?.getD 0).toNat_lt
  have h4 := (b[4 * t + 3]?.getD 0).toNat_lt
  omega

theorem schedL_length (b : List UInt8) : ∀ t, (schedL b t).length = t
  | 0 => rfl
  | t + 1 => by simp [schedL, schedL_length b t]
theorem schedL_lt (b : List UInt8) : ∀ t, ∀ x ∈ schedL b t, x < 4294967296
  | 0 => by simp [schedL]
  | t + 1 => by
    intro x hx
    simp only [schedL, List.mem_append, List.mem_singleton] at hx
    rcases hx with hx | hx
    · exact schedL_lt b t x hx
    · rw [hx]
      split
      · exact wAt_lt b t
      · exact add_lt32 _ _
end Go.Proofs.YtkaghbpdnmigmaaDoor
