/- Plain mathematics of the encoding of numbers: the encoding, the parse of it, and that they agree. No program in sight; no condition. -/
import Derived.Test.YtfdcmjjafngonaaDoorGwA
namespace Go.Proofs.YtfdcmjjafngonaaDoor

def b8 (n : Nat) : UInt8 := UInt8.ofNat n

def bv (b : UInt8) : Value := .int .u8 b.toNat

/-- How many bytes with the mark 'more' the list begins with, at most m. -/
def lead : List UInt8 → Nat → Nat
  | [], _ => 0
  | _ :: _, 0 => 0
  | b :: l, m + 1 => if 128 ≤ b.toNat then lead l m + 1 else 0

def val : List UInt8 → Nat
  | [] => 0
  | b :: l => b.toNat % 128 + 128 * val l

/-- The natural number at the beginning of bytes (at most m groups), its length, the error. -/
def pn (l : List UInt8) (m : Nat) : Nat × Nat × Nat :=
  let k := lead l m
  if k = m then (0, 0, 3)
  else if k = l.length then (0, 0, 28)
  else if 0 < k ∧ (l[k]?.getD 0).toNat = 0 then (0, 0, 3)
  else if k = 9 ∧ 1 < (l[k]?.getD 0).toNat then (0, 0, 3)
  else (val (l.take (k + 1)), k + 1, 0)

theorem lead_le : ∀ (l : List UInt8) (m : Nat), lead l m ≤ m ∧ lead l m ≤ l.length
  | [], m => by simp [lead]
  | b :: l, 0 => by simp [lead]
  | b :: l, m + 1 => by
    have := lead_le l m
    simp only [lead, List.length_cons]
    split <;> omega

theorem lead_step (l : List UInt8) (m k : Nat) (h1 : k < l.length) (h2 : k < m) (hb : 128 ≤ (l[k]?.getD 0).toNat) :
    lead (l.drop k) (m - k) = 1 + lead (l.drop (k + 1)) (m - (k + 1)) := by
  have e : l.drop k = l[k] :: l.drop (k + 1) := List.drop_eq_getElem_cons h1
  obtain ⟨j, hj⟩ : ∃ j, m - k = j + 1 := ⟨m - k - 1, by omega⟩
  rw [e, hj]
  rw [List.getElem?_eq_getElem h1] at hb
  simp only [Option.getD_some] at hb
  rw [lead, if_pos hb, show m - (k + 1) = j by omega]
  omega

theorem lead_stop (l : List UInt8) (m k : Nat) (h : l.length ≤ k ∨ m ≤ k ∨ (l[k]?.getD 0).toNat < 128) : lead (l.drop k) (m - k) = 0 := by
  rcases Nat.lt_or_ge k l.length with h1 | h1
  · have e : l.drop k = l[k] :: l.drop (k + 1) := List.drop_eq_getElem_cons h1
    rw [e]
    rcases Nat.lt_or_ge k m with h2 | h2
    · obtain ⟨j, hj⟩ : ∃ j, m - k = j + 1 := ⟨m - k - 1, by omega⟩
      rw [hj]
      rw [List.getElem?_eq_getElem h1] at h
      simp only [Option.getD_some] at h
      rw [lead, if_neg (by omega)]
    · rw [show m - k = 0 by omega]
      rfl
  · rw [List.drop_of_length_le h1]
    simp [lead]

theorem pn_most (l : List UInt8) (m : Nat) (h : lead l m = m) : pn l m = (0, 0, 3) := by simp [pn, h]
theorem pn_trunc (l : List UInt8) (m k : Nat) (h : lead l m = k) (hk : k < m) (hl : k = l.length) : pn l m = (0, 0, 28) := by
  unfold pn
  rw [h]
  simp only
  rw [if_neg (by omega), if_pos hl]
theorem pn_end (l : List UInt8) (m k : Nat) (h : lead l m = k) (hk : k < m) (hl : k < l.length) : pn l m =
    if 0 < k ∧ (l[k]?.getD 0).toNat = 0 then (0, 0, 3) else if k = 9 ∧ 1 < (l[k]?.getD 0).toNat then (0, 0, 3) else (val (l.take (k + 1)), k + 1, 0) := by
  unfold pn
  rw [h]
  simp only
  rw [if_neg (by omega), if_neg (by omega)]

theorem val_append (l r : List UInt8) : val (l ++ r) = val l + 128 ^ l.length * val r := by
  induction l with
  | nil => simp [val]
  | cons x l ih => simp only [List.cons_append, val, ih, List.length_cons, Nat.pow_succ]; rw [Nat.mul_add]; rw [Nat.mul_comm (128 ^ l.length) 128, Nat.mul_assoc]; omega

theorem val_lt (l : List UInt8) : val l < 128 ^ l.length := by
  induction l with
  | nil => simp [val]
  | cons x l ih => simp only [val, List.length_cons, Nat.pow_succ]; have := Nat.mod_lt x.toNat (show 128 > 0 by omega); omega

theorem val_drop (l : List UInt8) (k j : Nat) (hk : k < l.length) (hj : j ≤ k) :
    val ((l.take (k + 1)).drop j) = val ((l.take (k + 1)).drop (j + 1)) * 128 + (l[j]?.getD 0).toNat % 128 := by
  have h : j < (l.take (k + 1)).length := by simp; omega
  rw [List.drop_eq_getElem_cons h, val]
  have e : (l.take (k + 1))[j] = l[j]?.getD 0 := by
    rw [List.getElem_take, List.getElem?_eq_getElem (by omega), Option.getD_some]
  rw [e]
  omega

theorem val_small (l : List UInt8) (k j : Nat) (hk : k < l.length) (hk9 : k ≤ 9) (h9 : k = 9 → (l[k]?.getD 0).toNat ≤ 1) : val ((l.take (k + 1)).drop (j + 1)) < 144115188075855872 := by
  by_cases h : k ≤ 8
  · have h1 := val_lt ((l.take (k + 1)).drop (j + 1))
    have h2 : ((l.take (k + 1)).drop (j + 1)).length ≤ 8 := by simp; omega
    have h3 : (128 : Nat) ^ ((l.take (k + 1)).drop (j + 1)).length ≤ 128 ^ 8 := Nat.pow_le_pow_right (by omega) h2
    have h4 : (128 : Nat) ^ 8 = 72057594037927936 := by decide
    omega
  · obtain rfl : k = 9 := by omega
    have h9' := h9 rfl
    have e : l.take (9 + 1) = l.take 9 ++ [l[9]] := List.take_succ_eq_append_getElem hk
    rcases Nat.lt_or_ge j 9 with hj | hj
    · rw [e, List.drop_append_of_le_length (by simp; omega), val_append]
      have h1 := val_lt ((l.take 9).drop (j + 1))
      have h2 : ((l.take 9).drop (j + 1)).length ≤ 8 := by simp; omega
      have h3 : (128 : Nat) ^ ((l.take 9).drop (j + 1)).length ≤ 128 ^ 8 := Nat.pow_le_pow_right (by omega) h2
      have h4 : (128 : Nat) ^ 8 = 72057594037927936 := by decide
      rw [List.getElem?_eq_getElem hk, Option.getD_some] at h9'
      have h5 : val [l[9]] ≤ 1 := by simp only [val]; omega
      have h6 := Nat.mul_le_mul h3 h5
      omega
    · rw [List.drop_of_length_le (by simp; omega)]
      simp [val]

theorem val_small0 (l : List UInt8) (k : Nat) (hk : k < l.length) (hk9 : k ≤ 9) (h9 : k = 9 → (l[k]?.getD 0).toNat ≤ 1) : val (l.take (k + 1)) < 18446744073709551616 := by
  have h1 := val_small l k 0 hk hk9 h9
  have h2 := val_drop l k 0 hk (Nat.zero_le _)
  rw [List.drop_zero] at h2
  omega

theorem group_or (x b : Nat) (hx : x < 144115188075855872) (hb : b < 2 ^ 8) : bits .or .u64 (↑x * 128) (IntKind.u64.wrap (bits .and .u8 ↑b 127)) = ((x * 128 + b % 128 : Nat) : Int) := by
  have h1 : bits .and .u8 (b : Int) 127 = ((b % 128 : Nat) : Int) := by
    have := u8_and_nat b 127 (by simpa using hb) (by omega)
    rw [nat_mask7] at this
    exact this
  rw [h1]
  have h2 : IntKind.u64.wrap ((b % 128 : Nat) : Int) = ((b % 128 : Nat) : Int) := by
    simp only [IntKind.wrap, IntKind.bits, IntKind.signed]
    simp
    omega
  rw [h2, show ((x : Int) * 128) = ((x * 128 : Nat) : Int) by omega, u64_or_nat _ _ (by omega) (by omega), nat_join 7 _ _ (by omega) (by omega)]

/-- What a parse returns: an error and zeros, or a number with its bytes. -/
theorem pn_cases (l : List UInt8) (m : Nat) (hm : m ≤ 10) : (pn l m = (0, 0, 3) ∨ pn l m = (0, 0, 28)) ∨
    ∃ k, lead l m = k ∧ k < m ∧ k < l.length ∧ (0 < k → (l[k]?.getD 0).toNat ≠ 0) ∧ (k = 9 → (l[k]?.getD 0).toNat ≤ 1) ∧ (l[k]?.getD 0).toNat < 128 ∧ pn l m = (val (l.take (k + 1)), k + 1, 0) := by
  have hle := lead_le l m
  by_cases h1 : lead l m = m
  · exact .inl (.inl (pn_most l m h1))
  by_cases h2 : lead l m = l.length
  · exact .inl (.inr (pn_trunc l m _ rfl (by omega) h2))
  have he := pn_end l m _ rfl (by omega) (by omega)
  by_cases h3 : 0 < lead l m ∧ (l[lead l m]?.getD 0).toNat = 0
  · rw [if_pos h3] at he
    exact .inl (.inl he)
  rw [if_neg h3] at he
  by_cases h4 : lead l m = 9 ∧ 1 < (l[lead l m]?.getD 0).toNat
  · rw [if_pos h4] at he
    exact .inl (.inl he)
  rw [if_neg h4] at he
  refine .inr ⟨lead l m, rfl, by omega, by omega, fun h h' => h3 ⟨h, h'⟩, fun h => by omega, ?_, he⟩
  have key : ∀ (l : List UInt8) (m : Nat), lead l m < m → lead l m < l.length → (l[lead l m]?.getD 0).toNat < 128 := by
    intro l
    induction l with
    | nil => intro m _ h; simp at h
    | cons b l ih =>
      intro m h1 h2
      cases m with
      | zero => omega
      | succ m =>
        simp only [lead] at h1 h2 ⊢
        split at h1
        · rename_i hb
          rw [if_pos hb] at h2 ⊢
          simp only [List.length_cons] at h2
          simpa using ih m (by omega) (by omega)
        · rename_i hb
          rw [if_neg hb]
          simp; omega
  exact key l m (by omega) (by omega)

theorem pn_lt (l : List UInt8) (m : Nat) (hm : m ≤ 10) : (pn l m).1 < 18446744073709551616 := by
  rcases pn_cases l m hm with (h | h) | ⟨k, _, h1, h2, _, h4, _, h⟩
  · rw [h]; decide
  · rw [h]; decide
  · rw [h]; exact val_small0 l k h2 (by omega) h4

theorem pn_lt9 (l : List UInt8) : (pn l 9).1 < 9223372036854775808 := by
  rcases pn_cases l 9 (by omega) with (h | h) | ⟨k, _, h1, h2, _, _, _, h⟩
  · rw [h]; decide
  · rw [h]; decide
  · rw [h]
    have h3 := val_lt (l.take (k + 1))
    have h4 : (l.take (k + 1)).length ≤ 9 := by simp; omega
    have h5 : (128 : Nat) ^ (l.take (k + 1)).length ≤ 128 ^ 9 := Nat.pow_le_pow_right (by omega) h4
    have h6 : (128 : Nat) ^ 9 = 9223372036854775808 := by decide
    show val (l.take (k + 1)) < _
    omega

theorem pn_size (l : List UInt8) (m : Nat) (hm : m ≤ 10) : (pn l m).2.1 ≤ 10 ∧ (pn l m).2.1 ≤ l.length := by
  rcases pn_cases l m hm with (h | h) | ⟨k, _, h1, h2, _, h4, _, h⟩
  · rw [h]; simp
  · rw [h]; simp
  · rw [h]
    show k + 1 ≤ 10 ∧ k + 1 ≤ l.length
    omega

theorem more_or (x : Nat) : bits .or .u8 ((x : Int) % 256) 128 = ((x % 128 + 128 : Nat) : Int) := by
  have h := u8_or_nat (x % 256) 128 (by omega) (by omega)
  have e : ((x : Int) % 256) = ((x % 256 : Nat) : Int) := by omega
  rw [e]
  refine h.trans ?_
  congr 1
  have h1 : x % 256 = x / 128 % 2 * 128 + x % 128 := by omega
  rw [h1]
  rcases Nat.mod_two_eq_zero_or_one (x / 128) with h2 | h2
  · rw [h2, Nat.zero_mul, Nat.zero_add, Nat.or_comm, nat_join 7 128 _ (by omega) (by omega)]
    omega
  · rw [h2, Nat.one_mul, ← nat_join 7 128 (x % 128) (by omega) (by omega), Nat.or_comm, ← Nat.or_assoc, Nat.or_self, nat_join 7 128 _ (by omega) (by omega)]
    omega

theorem group_add (x b : Nat) (_ : x < 144115188075855872) (_ : b < 2 ^ 8) : 128 * (x : Int) + (b : Int) % 128 = ((x * 128 + b % 128 : Nat) : Int) := by omega

/-- The encoding of a natural number; the fuel is the number of groups but one. -/
def encF : Nat → Nat → List UInt8
  | 0, n => [b8 n]
  | k + 1, n => if n < 128 then [b8 n] else b8 (n % 128 + 128) :: encF k (n / 128)
def enc (n : Nat) : List UInt8 := encF 9 n

theorem encF_length : ∀ (k n : Nat), (encF k n).length ≤ k + 1
  | 0, n => by simp [encF]
  | k + 1, n => by
    simp only [encF]
    split
    · simp
    · have := encF_length k (n / 128)
      simp only [List.length_cons]
      omega
theorem enc_length (n : Nat) : (enc n).length ≤ 10 := encF_length 9 n

theorem enc_small {n : Nat} (h : n < 128) : enc n = [b8 n] := by simp [enc, encF, h]

theorem encF_step (k n : Nat) (h : 128 ≤ n) : encF (k + 1) n = b8 (n % 128 + 128) :: encF k (n / 128) := by simp [encF, Nat.not_lt.2 h]

/-- More fuel than the number needs does nothing. -/
theorem encF_fuel : ∀ (k j n : Nat), n < 128 ^ (k + 1) → k ≤ j → encF j n = encF k n
  | 0, j, n, h, _ => by
    cases j with
    | zero => rfl
    | succ j => simp [encF, show n < 128 by simpa using h]
  | k + 1, 0, n, h, hj => by omega
  | k + 1, j + 1, n, h, hj => by
    by_cases hn : n < 128
    · simp [encF, hn]
    · have : n / 128 < 128 ^ (k + 1) := by
        rw [Nat.pow_succ] at h
        exact Nat.div_lt_of_lt_mul (by rw [Nat.mul_comm]; exact h)
      rw [encF_step _ _ (by omega), encF_step _ _ (by omega), encF_fuel k j _ this (by omega)]

theorem enc_step {n : Nat} (h : 128 ≤ n) (hn : n < 18446744073709551616) : enc n = b8 (n % 128 + 128) :: enc (n / 128) := by
  unfold enc
  rw [encF_step _ _ h, encF_fuel 8 9 (n / 128) (by
    have : (128 : Nat) ^ (8 + 1) = 9223372036854775808 := by decide
    omega) (by omega)]

theorem lead_big : ∀ (l : List UInt8) (m j : Nat), j < lead l m → 128 ≤ (l[j]?.getD 0).toNat
  | [], m, j, h => by simp [lead] at h
  | b :: l, 0, j, h => by simp [lead] at h
  | b :: l, m + 1, j, h => by
    simp only [lead] at h
    split at h
    · rename_i hb
      cases j with
      | zero => simpa using hb
      | succ j => simpa using lead_big l m j (by omega)
    · omega

theorem b8_toNat (b : UInt8) : b8 b.toNat = b := by simp [b8]

/-- The encoding of the value of groups that are marked as they must be. -/
theorem encF_val : ∀ (r : List UInt8) (j : Nat), r ≠ [] → r.length ≤ j + 1 → (∀ i, i + 1 < r.length → 128 ≤ (r[i]?.getD 0).toNat) → (r[r.length - 1]?.getD 0).toNat < 128 →
    (1 < r.length → (r[r.length - 1]?.getD 0).toNat ≠ 0) → encF j (val r) = r
  | [], _, h, _, _, _, _ => absurd rfl h
  | [b], j, _, _, _, h4, _ => by
    simp at h4
    have e : val [b] = b.toNat := by simp [val]; omega
    rw [e]
    cases j with
    | zero => simp [encF, b8_toNat]
    | succ j => simp [encF, h4, b8_toNat]
  | b :: c :: r, 0, _, h2, _, _, _ => by simp at h2
  | b :: c :: r, j + 1, _, h2, h3, h4, h5 => by
    have hb := h3 0 (by simp)
    simp at hb
    have hlt := b.toNat_lt
    have h5' := h5 (by simp)
    have hpos : 1 ≤ val (c :: r) := by
      have key : ∀ (q : List UInt8), q ≠ [] → (q[q.length - 1]?.getD 0).toNat < 128 → (q[q.length - 1]?.getD 0).toNat ≠ 0 → 1 ≤ val q := by
        intro q
        induction q with
        | nil => intro h; exact absurd rfl h
        | cons x q ih =>
          intro _ hx1 hx2
          cases q with
          | nil => simp at hx1 hx2; simp only [val]; omega
          | cons y q =>
            have := ih (by simp) (by simpa using hx1) (by simpa using hx2)
            simp only [val] at this ⊢
            omega
      exact key _ (by simp) (by simpa using h4) (by simpa using h5')
    have hv : val (b :: c :: r) = b.toNat % 128 + 128 * val (c :: r) := rfl
    rw [encF_step _ _ (by omega)]
    have e1 : val (b :: c :: r) / 128 = val (c :: r) := by omega
    have e2 : val (b :: c :: r) % 128 + 128 = b.toNat := by omega
    rw [e1, e2, b8_toNat, encF_val (c :: r) j (by simp) (by simp at h2 ⊢; omega) (fun i hi => by simpa using h3 (i + 1) (by simp at hi ⊢; omega)) (by simpa using h4) (fun _ => by simpa using h5')]

theorem enc_val (l : List UInt8) (m k : Nat) (h0 : lead l m = k) (hm : m ≤ 10) (h1 : k < m) (h2 : k < l.length) (h3 : 0 < k → (l[k]?.getD 0).toNat ≠ 0) (h5 : (l[k]?.getD 0).toNat < 128) : enc (val (l.take (k + 1))) = l.take (k + 1) := by
  have hlen : (l.take (k + 1)).length = k + 1 := by simp; omega
  have hat : ∀ i, i ≤ k → (l.take (k + 1))[i]? = l[i]? := fun i hi => by rw [List.getElem?_take, if_pos (by omega)]
  refine encF_val (l.take (k + 1)) 9 (by intro h; rw [h] at hlen; simp at hlen) (by omega) (fun i hi => ?_) ?_ (fun h => ?_)
  · rw [hat i (by omega)]
    exact lead_big l m i (by omega)
  · rw [hlen, Nat.add_sub_cancel, hat k (Nat.le_refl _)]
    exact h5
  · rw [hlen, Nat.add_sub_cancel, hat k (Nat.le_refl _)]
    exact h3 (by omega)

theorem b8_of (n : Nat) (h : n < 256) : (b8 n).toNat = n := by
  unfold b8
  rw [UInt8.toNat_ofNat_of_lt' (by simpa using h)]

theorem encF_ne (k n : Nat) : 1 ≤ (encF k n).length := by
  cases k with
  | zero => simp [encF]
  | succ k => simp only [encF]; split <;> simp

/-- The groups of an encoding are marked as they must be, and their value is the number. -/
theorem encF_props : ∀ (k n : Nat), n < 128 ^ (k + 1) → (∀ i, i + 1 < (encF k n).length → 128 ≤ ((encF k n)[i]?.getD 0).toNat) ∧ ((encF k n)[(encF k n).length - 1]?.getD 0).toNat < 128 ∧
    (1 < (encF k n).length → ((encF k n)[(encF k n).length - 1]?.getD 0).toNat ≠ 0) ∧ val (encF k n) = n
  | 0, n, h => by
    have h' : n < 128 := by simpa using h
    simp [encF, b8_of n (by omega), val, h']
  | k + 1, n, h => by
    by_cases hn : n < 128
    · simp [encF, hn, b8_of n (by omega), val]
    · have h2 : n / 128 < 128 ^ (k + 1) := by
        rw [Nat.pow_succ] at h
        exact Nat.div_lt_of_lt_mul (by rw [Nat.mul_comm]; exact h)
      obtain ⟨p1, p2, p3, p4⟩ := encF_props k (n / 128) h2
      have hne := encF_ne k (n / 128)
      rw [encF_step _ _ (by omega)]
      have hat : ∀ i, (b8 (n % 128 + 128) :: encF k (n / 128))[i + 1]? = (encF k (n / 128))[i]? := fun i => by simp
      obtain ⟨j, hj⟩ : ∃ j, (encF k (n / 128)).length = j + 1 := ⟨_, (Nat.sub_add_cancel hne).symm⟩
      refine ⟨fun i hi => ?_, ?_, fun _ => ?_, ?_⟩
      · cases i with
        | zero => simp [b8_of (n % 128 + 128) (by omega)]
        | succ i => rw [hat]; exact p1 i (by simpa using hi)
      · rw [List.length_cons, Nat.add_sub_cancel, hj, hat]
        rw [hj, Nat.add_sub_cancel] at p2
        exact p2
      · rw [List.length_cons, Nat.add_sub_cancel, hj, hat]
        rw [hj, Nat.add_sub_cancel] at p3
        rcases Nat.eq_zero_or_pos j with h0 | h0
        · subst h0
          -- one group behind: its value is not 0
          have hl : ∃ c, encF k (n / 128) = [c] := List.length_eq_one_iff.1 (by omega)
          obtain ⟨c, hc⟩ := hl
          rw [hc] at p4 ⊢
          simp [val] at p4 ⊢
          intro hc0
          have : c.toNat = 0 := by rw [hc0]
          omega
        · exact p3 (by omega)
      · show (b8 (n % 128 + 128)).toNat % 128 + 128 * val (encF k (n / 128)) = n
        rw [p4, b8_of _ (by omega)]
        omega

theorem lead_of : ∀ (l : List UInt8) (m j : Nat), (∀ i, i < j → 128 ≤ (l[i]?.getD 0).toNat) → (l[j]?.getD 0).toNat < 128 → j < l.length → j < m → lead l m = j
  | [], m, j, _, _, h, _ => by simp at h
  | b :: l, 0, j, _, _, _, h => by omega
  | b :: l, m + 1, 0, _, h, _, _ => by
    simp at h
    rw [lead, if_neg (by omega)]
  | b :: l, m + 1, j + 1, h1, h2, h3, h4 => by
    have hb := h1 0 (by omega)
    simp at hb
    rw [lead, if_pos hb, lead_of l m j (fun i hi => by simpa using h1 (i + 1) (by omega)) (by simpa using h2) (by simpa using h3) (by omega)]

theorem pn_encF (k n m : Nat) (r : List UInt8) (hn : n < 128 ^ (k + 1)) (h64 : n < 18446744073709551616) (hm : m ≤ 10) (hlen : (encF k n).length ≤ m) : pn (encF k n ++ r) m = (n, (encF k n).length, 0) := by
  obtain ⟨p1, p2, p3, p4⟩ := encF_props k n hn
  have hne := encF_ne k n
  have hat : ∀ i, i < (encF k n).length → (encF k n ++ r)[i]? = (encF k n)[i]? := fun i hi => List.getElem?_append_left hi
  have hl : lead (encF k n ++ r) m = (encF k n).length - 1 := by
    refine lead_of _ _ _ (fun i hi => ?_) ?_ (by simp; omega) (by omega)
    · rw [hat i (by omega)]; exact p1 i (by omega)
    · rw [hat _ (by omega)]; exact p2
  rw [pn_end _ m _ hl (by omega) (by simp; omega), hat _ (by omega)]
  rw [if_neg (fun h => p3 (by omega) h.2)]
  have htop : ¬ ((encF k n).length - 1 = 9 ∧ 1 < ((encF k n)[(encF k n).length - 1]?.getD 0).toNat) := by
    rintro ⟨h1, h2⟩
    have hlen10 : (encF k n).length = 10 := by omega
    rw [h1] at h2 p2
    generalize encF k n = e at p4 h2 hlen10 p2
    have e1 : e = e.take 9 ++ e.drop 9 := (List.take_append_drop 9 e).symm
    have e2 : e.drop 9 = [e[9]] := by
      rw [List.drop_eq_getElem_cons (by omega)]
      simp [List.drop_of_length_le, hlen10]
    rw [e2] at e1
    have e3 : val e = val (e.take 9) + 128 ^ 9 * val [e[9]] := by
      conv => lhs; rw [e1]
      rw [val_append]
      simp [hlen10]
    rw [List.getElem?_eq_getElem (by omega), Option.getD_some] at h2
    have h128 : (128 : Nat) ^ 9 = 9223372036854775808 := by decide
    have e4 : 2 ≤ val [e[9]] ∨ 128 ≤ e[9].toNat := by
      simp only [val]
      omega
    rcases e4 with e4 | e4
    · have := Nat.mul_le_mul_left (128 ^ 9) e4
      omega
    · rw [List.getElem?_eq_getElem (by omega), Option.getD_some] at p2
      omega
  rw [if_neg htop]
  rw [List.take_append_of_le_length (by omega), List.take_of_length_le (by omega), p4, Nat.sub_add_cancel hne]

theorem pow128_10 : (128 : Nat) ^ (9 + 1) = 1180591620717411303424 := by decide
theorem pow128_9 : (128 : Nat) ^ (8 + 1) = 9223372036854775808 := by decide
theorem enc_length9 (n : Nat) (h : n < 9223372036854775808) : (enc n).length ≤ 9 := by
  unfold enc
  rw [encF_fuel 8 9 n (by rw [pow128_9]; exact h) (by omega)]
  exact encF_length 8 n
theorem pn_enc10 (n : Nat) (r : List UInt8) (h : n < 18446744073709551616) : pn (enc n ++ r) 10 = (n, (enc n).length, 0) :=
  pn_encF 9 n 10 r (by rw [pow128_10]; omega) h (by omega) (enc_length n)
theorem pn_enc9 (n : Nat) (r : List UInt8) (h : n < 9223372036854775808) : pn (enc n ++ r) 9 = (n, (enc n).length, 0) :=
  pn_encF 9 n 9 r (by rw [pow128_10]; omega) (by omega) (by omega) (enc_length9 n h)
end Go.Proofs.YtfdcmjjafngonaaDoor
