/- Steps of the proof of LawPipesLoseNothing: contracts of the functions that the law reaches, for every world that holds what each of them asks. -/
import Derived.Test.YtmpokappjogehaaGreatDoorQAB
import Derived.Test.YtmpokappjogehaaGreatDoorProg
import Derived.Deep.QuietTactic
import Derived.BigQuiet
set_option linter.unusedVariables false
set_option linter.unusedSimpArgs false
/- Plain mathematics of the encoding of numbers: the encoding, the parse of it, and that they agree. No program in sight; no condition. -/
namespace Go.Proofs.YtmpokappjogehaaGreatDoor

def b8 (n : Nat) : UInt8 := UInt8.ofNat n

def bv (b : UInt8) : Value := .int .u8 b.toNat

/-- How many bytes with the mark 'more' the list begins with, at most m. -/
def lead : List UInt8 → Nat → Nat
  | [], _ => 0
  | _ :: _, 0 => 0
  | b :: l, m + 1 => if 128 ≤ b.toNat then lead l m + 1 else 0

def val : List UInt8 → Nat
  | [] => 0
  | b :: l => b.toNat % 128 + 128 * val l

/-- The natural number at the beginning of bytes (at most m groups), its length, the error. -/
def pn (l : List UInt8) (m : Nat) : Nat × Nat × Nat :=
  let k := lead l m
  if k = m then (0, 0, 3)
  else if k = l.length then (0, 0, 28)
  else if 0 < k ∧ (l[k]?.getD 0).toNat = 0 then (0, 0, 3)
  else if k = 9 ∧ 1 < (l[k]?.getD 0).toNat then (0, 0, 3)
  else (val (l.take (k + 1)), k + 1, 0)

theorem lead_le : ∀ (l : List UInt8) (m : Nat), lead l m ≤ m ∧ lead l m ≤ l.length
  | [], m => by simp [lead]
  | b :: l, 0 => by simp [lead]
  | b :: l, m + 1 => by
    have := lead_le l m
    simp only [lead, List.length_cons]
    split <;> omega

theorem lead_step (l : List UInt8) (m k : Nat) (h1 : k < l.length) (h2 : k < m) (hb : 128 ≤ (l[k]?.getD 0).toNat) :
    lead (l.drop k) (m - k) = 1 + lead (l.drop (k + 1)) (m - (k + 1)) := by
  have e : l.drop k = l[k] :: l.drop (k + 1) := List.drop_eq_getElem_cons h1
  obtain ⟨j, hj⟩ : ∃ j, m - k = j + 1 := ⟨m - k - 1, by omega⟩
  rw [e, hj]
  rw [List.getElem?_eq_getElem h1] at hb
  simp only [Option.getD_some] at hb
  rw [lead, if_pos hb, show m - (k + 1) = j by omega]
  omega

theorem lead_stop (l : List UInt8) (m k : Nat) (h : l.length ≤ k ∨ m ≤ k ∨ (l[k]?.getD 0).toNat < 128) : lead (l.drop k) (m - k) = 0 := by
  rcases Nat.lt_or_ge k l.length with h1 | h1
  · have e : l.drop k = l[k] :: l.drop (k + 1) := List.drop_eq_getElem_cons h1
    rw [e]
    rcases Nat.lt_or_ge k m with h2 | h2
    · obtain ⟨j, hj⟩ : ∃ j, m - k = j + 1 := ⟨m - k - 1, by omega⟩
      rw [hj]
      rw [List.getElem?_eq_getElem h1] at h
      simp only [Option.getD_some] at h
      rw [lead, if_neg (by omega)]
    · rw [show m - k = 0 by omega]
      rfl
  · rw [List.drop_of_length_le h1]
    simp [lead]

theorem pn_most (l : List UInt8) (m : Nat) (h : lead l m = m) : pn l m = (0, 0, 3) := by simp [pn, h]
theorem pn_trunc (l : List UInt8) (m k : Nat) (h : lead l m = k) (hk : k < m) (hl : k = l.length) : pn l m = (0, 0, 28) := by
  unfold pn
  rw [h]
  simp only
  rw [if_neg (by omega), if_pos hl]
theorem pn_end (l : List UInt8) (m k : Nat) (h : lead l m = k) (hk : k < m) (hl : k < l.length) : pn l m =
    if 0 < k ∧ (l[k]?.getD 0).toNat = 0 then (0, 0, 3) else if k = 9 ∧ 1 < (l[k]?.getD 0).toNat then (0, 0, 3) else (val (l.take (k + 1)), k + 1, 0) := by
  unfold pn
  rw [h]
  simp only
  rw [if_neg (by omega), if_neg (by omega)]

theorem val_append (l r : List UInt8) : val (l ++ r) = val l + 128 ^ l.length * val r := by
  induction l with
  | nil => simp [val]
  | cons x l ih => simp only [List.cons_append, val, ih, List.length_cons, Nat.pow_succ]; rw [Nat.mul_add]; rw [Nat.mul_comm (128 ^ l.length) 128, Nat.mul_assoc]; omega

theorem val_lt (l : List UInt8) : val l < 128 ^ l.length := by
  induction l with
  | nil => simp [val]
  | cons x l ih => simp only [val, List.length_cons, Nat.pow_succ]; have := Nat.mod_lt x.toNat (show 128 > 0 by omega); omega

theorem val_drop (l : List UInt8) (k j : Nat) (hk : k < l.length) (hj : j ≤ k) :
    val ((l.take (k + 1)).drop j) = val ((l.take (k + 1)).drop (j + 1)) * 128 + (l[j]?.getD 0).toNat % 128 := by
  have h : j < (l.take (k + 1)).length := by simp; omega
  rw [List.drop_eq_getElem_cons h, val]
  have e : (l.take (k + 1))[j] = l[j]?.getD 0 := by
    rw [List.getElem_take, List.getElem?_eq_getElem (by omega), Option.getD_some]
  rw [e]
  omega

theorem val_small (l : List UInt8) (k j : Nat) (hk : k < l.length) (hk9 : k ≤ 9) (h9 : k = 9 → (l[k]?.getD 0).toNat ≤ 1) : val ((l.take (k + 1)).drop (j + 1)) < 144115188075855872 := by
  by_cases h : k ≤ 8
  · have h1 := val_lt ((l.take (k + 1)).drop (j + 1))
    have h2 : ((l.take (k + 1)).drop (j + 1)).length ≤ 8 := by simp; omega
    have h3 : (128 : Nat) ^ ((l.take (k + 1)).drop (j + 1)).length ≤ 128 ^ 8 := Nat.pow_le_pow_right (by omega) h2
    have h4 : (128 : Nat) ^ 8 = 72057594037927936 := by decide
    omega
  · obtain rfl : k = 9 := by omega
    have h9' := h9 rfl
    have e : l.take (9 + 1) = l.take 9 ++ [l[9]] := List.take_succ_eq_append_getElem hk
    rcases Nat.lt_or_ge j 9 with hj | hj
    · rw [e, List.drop_append_of_le_length (by simp; omega), val_append]
      have h1 := val_lt ((l.take 9).drop (j + 1))
      have h2 : ((l.take 9).drop (j + 1)).length ≤ 8 := by simp; omega
      have h3 : (128 : Nat) ^ ((l.take 9).drop (j + 1)).length ≤ 128 ^ 8 := Nat.pow_le_pow_right (by omega) h2
      have h4 : (128 : Nat) ^ 8 = 72057594037927936 := by decide
      rw [List.getElem?_eq_getElem hk, Option.getD_some] at h9'
      have h5 : val [l[9]] ≤ 1 := by simp only [val]; omega
      have h6 := Nat.mul_le_mul h3 h5
      omega
    · rw [List.drop_of_length_le (by simp; omega)]
      simp [val]

theorem val_small0 (l : List UInt8) (k : Nat) (hk : k < l.length) (hk9 : k ≤ 9) (h9 : k = 9 → (l[k]?.getD 0).toNat ≤ 1) : val (l.take (k + 1)) < 18446744073709551616 := by
  have h1 := val_small l k 0 hk hk9 h9
  have h2 := val_drop l k 0 hk (Nat.zero_le _)
  rw [List.drop_zero] at h2
  omega

theorem group_or (x b : Nat) (hx : x < 144115188075855872) (hb : b < 2 ^ 8) : bits .or .u64 (↑x * 128) (IntKind.u64.wrap (bits .and .u8 ↑b 127)) = ((x * 128 + b % 128 : Nat) : Int) := by
  have h1 : bits .and .u8 (b : Int) 127 = ((b % 128 : Nat) : Int) := by
    have := u8_and_nat b 127 (by simpa using hb) (by omega)
    rw [nat_mask7] at this
    exact this
  rw [h1]
  have h2 : IntKind.u64.wrap ((b % 128 : Nat) : Int) = ((b % 128 : Nat) : Int) := by
    simp only [IntKind.wrap, IntKind.bits, IntKind.signed]
    simp
    omega
  rw [h2, show ((x : Int) * 128) = ((x * 128 : Nat) : Int) by omega, u64_or_nat _ _ (by omega) (by omega), nat_join 7 _ _ (by omega) (by omega)]

/-- What a parse returns: an error and zeros, or a number with its bytes. -/
theorem pn_cases (l : List UInt8) (m : Nat) (hm : m ≤ 10) : (pn l m = (0, 0, 3) ∨ pn l m = (0, 0, 28)) ∨
    ∃ k, lead l m = k ∧ k < m ∧ k < l.length ∧ (0 < k → (l[k]?.getD 0).toNat ≠ 0) ∧ (k = 9 → (l[k]?.getD 0).toNat ≤ 1) ∧ (l[k]?.getD 0).toNat < 128 ∧ pn l m = (val (l.take (k + 1)), k + 1, 0) := by
  have hle := lead_le l m
  by_cases h1 : lead l m = m
  · exact .inl (.inl (pn_most l m h1))
  by_cases h2 : lead l m = l.length
  · exact .inl (.inr (pn_trunc l m _ rfl (by omega) h2))
  have he := pn_end l m _ rfl (by omega) (by omega)
  by_cases h3 : 0 < lead l m ∧ (l[lead l m]?.getD 0).toNat = 0
  · rw [if_pos h3] at he
    exact .inl (.inl he)
  rw [if_neg h3] at he
  by_cases h4 : lead l m = 9 ∧ 1 < (l[lead l m]?.getD 0).toNat
  · rw [if_pos h4] at he
    exact .inl (.inl he)
  rw [if_neg h4] at he
  refine .inr ⟨lead l m, rfl, by omega, by omega, fun h h' => h3 ⟨h, h'⟩, fun h => by omega, ?_, he⟩
  have key : ∀ (l : List UInt8) (m : Nat), lead l m < m → lead l m < l.length → (l[lead l m]?.getD 0).toNat < 128 := by
    intro l
    induction l with
    | nil => intro m _ h; simp at h
    | cons b l ih =>
      intro m h1 h2
      cases m with
      | zero => omega
      | succ m =>
        simp only [lead] at h1 h2 ⊢
        split at h1
        · rename_i hb
          rw [if_pos hb] at h2 ⊢
          simp only [List.length_cons] at h2
          simpa using ih m (by omega) (by omega)
        · rename_i hb
          rw [if_neg hb]
          simp; omega
  exact key l m (by omega) (by omega)

theorem pn_lt (l : List UInt8) (m : Nat) (hm : m ≤ 10) : (pn l m).1 < 18446744073709551616 := by
  rcases pn_cases l m hm with (h | h) | ⟨k, _, h1, h2, _, h4, _, h⟩
  · rw [h]; decide
  · rw [h]; decide
  · rw [h]; exact val_small0 l k h2 (by omega) h4

theorem pn_lt9 (l : List UInt8) : (pn l 9).1 < 9223372036854775808 := by
  rcases pn_cases l 9 (by omega) with (h | h) | ⟨k, _, h1, h2, _, _, _, h⟩
  · rw [h]; decide
  · rw [h]; decide
  · rw [h]
    have h3 := val_lt (l.take (k + 1))
    have h4 : (l.take (k + 1)).length ≤ 9 := by simp; omega
    have h5 : (128 : Nat) ^ (l.take (k + 1)).length ≤ 128 ^ 9 := Nat.pow_le_pow_right (by omega) h4
    have h6 : (128 : Nat) ^ 9 = 9223372036854775808 := by decide
    show val (l.take (k + 1)) < _
    omega

theorem pn_size (l : List UInt8) (m : Nat) (hm : m ≤ 10) : (pn l m).2.1 ≤ 10 ∧ (pn l m).2.1 ≤ l.length := by
  rcases pn_cases l m hm with (h | h) | ⟨k, _, h1, h2, _, h4, _, h⟩
  · rw [h]; simp
  · rw [h]; simp
  · rw [h]
    show k + 1 ≤ 10 ∧ k + 1 ≤ l.length
    omega

theorem more_or (x : Nat) : bits .or .u8 ((x : Int) % 256) 128 = ((x % 128 + 128 : Nat) : Int) := by
  have h := u8_or_nat (x % 256) 128 (by omega) (by omega)
  have e : ((x : Int) % 256) = ((x % 256 : Nat) : Int) := by omega
  rw [e]
  refine h.trans ?_
  congr 1
  have h1 : x % 256 = x / 128 % 2 * 128 + x % 128 := by omega
  rw [h1]
  rcases Nat.mod_two_eq_zero_or_one (x / 128) with h2 | h2
  · rw [h2, Nat.zero_mul, Nat.zero_add, Nat.or_comm, nat_join 7 128 _ (by omega) (by omega)]
    omega
  · rw [h2, Nat.one_mul, ← nat_join 7 128 (x % 128) (by omega) (by omega), Nat.or_comm, ← Nat.or_assoc, Nat.or_self, nat_join 7 128 _ (by omega) (by omega)]
    omega

theorem group_add (x b : Nat) (_ : x < 144115188075855872) (_ : b < 2 ^ 8) : 128 * (x : Int) + (b : Int) % 128 = ((x * 128 + b % 128 : Nat) : Int) := by omega

/-- The encoding of a natural number; the fuel is the number of groups but one. -/
def encF : Nat → Nat → List UInt8
  | 0, n => [b8 n]
  | k + 1, n => if n < 128 then [b8 n] else b8 (n % 128 + 128) :: encF k (n / 128)
def enc (n : Nat) : List UInt8 := encF 9 n

theorem encF_length : ∀ (k n : Nat), (encF k n).length ≤ k + 1
  | 0, n => by simp [encF]
  | k + 1, n => by
    simp only [encF]
    split
    · simp
    · have := encF_length k (n / 128)
      simp only [List.length_cons]
      omega
theorem enc_length (n : Nat) : (enc n).length ≤ 10 := encF_length 9 n

theorem enc_small {n : Nat} (h : n < 128) : enc n = [b8 n] := by simp [enc, encF, h]

theorem encF_step (k n : Nat) (h : 128 ≤ n) : encF (k + 1) n = b8 (n % 128 + 128) :: encF k (n / 128) := by simp [encF, Nat.not_lt.2 h]

/-- More fuel than the number needs does nothing. -/
theorem encF_fuel : ∀ (k j n : Nat), n < 128 ^ (k + 1) → k ≤ j → encF j n = encF k n
  | 0, j, n, h, _ => by
    cases j with
    | zero => rfl
    | succ j => simp [encF, show n < 128 by simpa using h]
  | k + 1, 0, n, h, hj => by omega
  | k + 1, j + 1, n, h, hj => by
    by_cases hn : n < 128
    · simp [encF, hn]
    · have : n / 128 < 128 ^ (k + 1) := by
        rw [Nat.pow_succ] at h
        exact Nat.div_lt_of_lt_mul (by rw [Nat.mul_comm]; exact h)
      rw [encF_step _ _ (by omega), encF_step _ _ (by omega), encF_fuel k j _ this (by omega)]

theorem enc_step {n : Nat} (h : 128 ≤ n) (hn : n < 18446744073709551616) : enc n = b8 (n % 128 + 128) :: enc (n / 128) := by
  unfold enc
  rw [encF_step _ _ h, encF_fuel 8 9 (n / 128) (by
    have : (128 : Nat) ^ (8 + 1) = 9223372036854775808 := by decide
    omega) (by omega)]

theorem lead_big : ∀ (l : List UInt8) (m j : Nat), j < lead l m → 128 ≤ (l[j]?.getD 0).toNat
  | [], m, j, h => by simp [lead] at h
  | b :: l, 0, j, h => by simp [lead] at h
  | b :: l, m + 1, j, h => by
    simp only [lead] at h
    split at h
    · rename_i hb
      cases j with
      | zero => simpa using hb
      | succ j => simpa using lead_big l m j (by omega)
    · omega

theorem b8_toNat (b : UInt8) : b8 b.toNat = b := by simp [b8]

/-- The encoding of the value of groups that are marked as they must be. -/
theorem encF_val : ∀ (r : List UInt8) (j : Nat), r ≠ [] → r.length ≤ j + 1 → (∀ i, i + 1 < r.length → 128 ≤ (r[i]?.getD 0).toNat) → (r[r.length - 1]?.getD 0).toNat < 128 →
    (1 < r.length → (r[r.length - 1]?.getD 0).toNat ≠ 0) → encF j (val r) = r
  | [], _, h, _, _, _, _ => absurd rfl h
  | [b], j, _, _, _, h4, _ => by
    simp at h4
    have e : val [b] = b.toNat := by simp [val]; omega
    rw [e]
    cases j with
    | zero => simp [encF, b8_toNat]
    | succ j => simp [encF, h4, b8_toNat]
  | b :: c :: r, 0, _, h2, _, _, _ => by simp at h2
  | b :: c :: r, j + 1, _, h2, h3, h4, h5 => by
    have hb := h3 0 (by simp)
    simp at hb
    have hlt := b.toNat_lt
    have h5' := h5 (by simp)
    have hpos : 1 ≤ val (c :: r) := by
      have key : ∀ (q : List UInt8), q ≠ [] → (q[q.length - 1]?.getD 0).toNat < 128 → (q[q.length - 1]?.getD 0).toNat ≠ 0 → 1 ≤ val q := by
        intro q
        induction q with
        | nil => intro h; exact absurd rfl h
        | cons x q ih =>
          intro _ hx1 hx2
          cases q with
          | nil => simp at hx1 hx2; simp only [val]; omega
          | cons y q =>
            have := ih (by simp) (by simpa using hx1) (by simpa using hx2)
            simp only [val] at this ⊢
            omega
      exact key _ (by simp) (by simpa using h4) (by simpa using h5')
    have hv : val (b :: c :: r) = b.toNat % 128 + 128 * val (c :: r) := rfl
    rw [encF_step _ _ (by omega)]
    have e1 : val (b :: c :: r) / 128 = val (c :: r) := by omega
    have e2 : val (b :: c :: r) % 128 + 128 = b.toNat := by omega
    rw [e1, e2, b8_toNat, encF_val (c :: r) j (by simp) (by simp at h2 ⊢; omega) (fun i hi => by simpa using h3 (i + 1) (by simp at hi ⊢; omega)) (by simpa using h4) (fun _ => by simpa using h5')]

theorem enc_val (l : List UInt8) (m k : Nat) (h0 : lead l m = k) (hm : m ≤ 10) (h1 : k < m) (h2 : k < l.length) (h3 : 0 < k → (l[k]?.getD 0).toNat ≠ 0) (h5 : (l[k]?.getD 0).toNat < 128) : enc (val (l.take (k + 1))) = l.take (k + 1) := by
  have hlen : (l.take (k + 1)).length = k + 1 := by simp; omega
  have hat : ∀ i, i ≤ k → (l.take (k + 1))[i]? = l[i]? := fun i hi => by rw [List.getElem?_take, if_pos (by omega)]
  refine encF_val (l.take (k + 1)) 9 (by intro h; rw [h] at hlen; simp at hlen) (by omega) (fun i hi => ?_) ?_ (fun h => ?_)
  · rw [hat i (by omega)]
    exact lead_big l m i (by omega)
  · rw [hlen, Nat.add_sub_cancel, hat k (Nat.le_refl _)]
    exact h5
  · rw [hlen, Nat.add_sub_cancel, hat k (Nat.le_refl _)]
    exact h3 (by omega)

theorem b8_of (n : Nat) (h : n < 256) : (b8 n).toNat = n := by
  unfold b8
  rw [UInt8.toNat_ofNat_of_lt' (by simpa using h)]

theorem encF_ne (k n : Nat) : 1 ≤ (encF k n).length := by
  cases k with
  | zero => simp [encF]
  | succ k => simp only [encF]; split <;> simp

/-- The groups of an encoding are marked as they must be, and their value is the number. -/
theorem encF_props : ∀ (k n : Nat), n < 128 ^ (k + 1) → (∀ i, i + 1 < (encF k n).length → 128 ≤ ((encF k n)[i]?.getD 0).toNat) ∧ ((encF k n)[(encF k n).length - 1]?.getD 0).toNat < 128 ∧
    (1 < (encF k n).length → ((encF k n)[(encF k n).length - 1]?.getD 0).toNat ≠ 0) ∧ val (encF k n) = n
  | 0, n, h => by
    have h' : n < 128 := by simpa using h
    simp [encF, b8_of n (by omega), val, h']
  | k + 1, n, h => by
    by_cases hn : n < 128
    · simp [encF, hn, b8_of n (by omega), val]
    · have h2 : n / 128 < 128 ^ (k + 1) := by
        rw [Nat.pow_succ] at h
        exact Nat.div_lt_of_lt_mul (by rw [Nat.mul_comm]; exact h)
      obtain ⟨p1, p2, p3, p4⟩ := encF_props k (n / 128) h2
      have hne := encF_ne k (n / 128)
      rw [encF_step _ _ (by omega)]
      have hat : ∀ i, (b8 (n % 128 + 128) :: encF k (n / 128))[i + 1]? = (encF k (n / 128))[i]? := fun i => by simp
      obtain ⟨j, hj⟩ : ∃ j, (encF k (n / 128)).length = j + 1 := ⟨_, (Nat.sub_add_cancel hne).symm⟩
      refine ⟨fun i hi => ?_, ?_, fun _ => ?_, ?_⟩
      · cases i with
        | zero => simp [b8_of (n % 128 + 128) (by omega)]
        | succ i => rw [hat]; exact p1 i (by simpa using hi)
      · rw [List.length_cons, Nat.add_sub_cancel, hj, hat]
        rw [hj, Nat.add_sub_cancel] at p2
        exact p2
      · rw [List.length_cons, Nat.add_sub_cancel, hj, hat]
        rw [hj, Nat.add_sub_cancel] at p3
        rcases Nat.eq_zero_or_pos j with h0 | h0
        · subst h0
          -- one group behind: its value is not 0
          have hl : ∃ c, encF k (n / 128) = [c] := List.length_eq_one_iff.1 (by omega)
          obtain ⟨c, hc⟩ := hl
          rw [hc] at p4 ⊢
          simp [val] at p4 ⊢
          intro hc0
          have : c.toNat = 0 := by rw [hc0]
          omega
        · exact p3 (by omega)
      · show (b8 (n % 128 + 128)).toNat % 128 + 128 * val (encF k (n / 128)) = n
        rw [p4, b8_of _ (by omega)]
        omega

theorem lead_of : ∀ (l : List UInt8) (m j : Nat), (∀ i, i < j → 128 ≤ (l[i]?.getD 0).toNat) → (l[j]?.getD 0).toNat < 128 → j < l.length → j < m → lead l m = j
  | [], m, j, _, _, h, _ => by simp at h
  | b :: l, 0, j, _, _, _, h => by omega
  | b :: l, m + 1, 0, _, h, _, _ => by
    simp at h
    rw [lead, if_neg (by omega)]
  | b :: l, m + 1, j + 1, h1, h2, h3, h4 => by
    have hb := h1 0 (by omega)
    simp at hb
    rw [lead, if_pos hb, lead_of l m j (fun i hi => by simpa using h1 (i + 1) (by omega)) (by simpa using h2) (by simpa using h3) (by omega)]

theorem pn_encF (k n m : Nat) (r : List UInt8) (hn : n < 128 ^ (k + 1)) (h64 : n < 18446744073709551616) (hm : m ≤ 10) (hlen : (encF k n).length ≤ m) : pn (encF k n ++ r) m = (n, (encF k n).length, 0) := by
  obtain ⟨p1, p2, p3, p4⟩ := encF_props k n hn
  have hne := encF_ne k n
  have hat : ∀ i, i < (encF k n).length → (encF k n ++ r)[i]? = (encF k n)[i]? := fun i hi => List.getElem?_append_left hi
  have hl : lead (encF k n ++ r) m = (encF k n).length - 1 := by
    refine lead_of _ _ _ (fun i hi => ?_) ?_ (by simp; omega) (by omega)
    · rw [hat i (by omega)]; exact p1 i (by omega)
    · rw [hat _ (by omega)]; exact p2
  rw [pn_end _ m _ hl (by omega) (by simp; omega), hat _ (by omega)]
  rw [if_neg (fun h => p3 (by omega) h.2)]
  have htop : ¬ ((encF k n).length - 1 = 9 ∧ 1 < ((encF k n)[(encF k n).length - 1]?.getD 0).toNat) := by
    rintro ⟨h1, h2⟩
    have hlen10 : (encF k n).length = 10 := by omega
    rw [h1] at h2 p2
    generalize encF k n = e at p4 h2 hlen10 p2
    have e1 : e = e.take 9 ++ e.drop 9 := (List.take_append_drop 9 e).symm
    have e2 : e.drop 9 = [e[9]] := by
      rw [List.drop_eq_getElem_cons (by omega)]
      simp [List.drop_of_length_le, hlen10]
    rw [e2] at e1
    have e3 : val e = val (e.take 9) + 128 ^ 9 * val [e[9]] := by
      conv => lhs; rw [e1]
      rw [val_append]
      simp [hlen10]
    rw [List.getElem?_eq_getElem (by omega), Option.getD_some] at h2
    have h128 : (128 : Nat) ^ 9 = 9223372036854775808 := by decide
    have e4 : 2 ≤ val [e[9]] ∨ 128 ≤ e[9].toNat := by
      simp only [val]
      omega
    rcases e4 with e4 | e4
    · have := Nat.mul_le_mul_left (128 ^ 9) e4
      omega
    · rw [List.getElem?_eq_getElem (by omega), Option.getD_some] at p2
      omega
  rw [if_neg htop]
  rw [List.take_append_of_le_length (by omega), List.take_of_length_le (by omega), p4, Nat.sub_add_cancel hne]

theorem pow128_10 : (128 : Nat) ^ (9 + 1) = 1180591620717411303424 := by decide
theorem pow128_9 : (128 : Nat) ^ (8 + 1) = 9223372036854775808 := by decide
theorem enc_length9 (n : Nat) (h : n < 9223372036854775808) : (enc n).length ≤ 9 := by
  unfold enc
  rw [encF_fuel 8 9 n (by rw [pow128_9]; exact h) (by omega)]
  exact encF_length 8 n
theorem pn_enc10 (n : Nat) (r : List UInt8) (h : n < 18446744073709551616) : pn (enc n ++ r) 10 = (n, (enc n).length, 0) :=
  pn_encF 9 n 10 r (by rw [pow128_10]; omega) h (by omega) (enc_length n)
theorem pn_enc9 (n : Nat) (r : List UInt8) (h : n < 9223372036854775808) : pn (enc n ++ r) 9 = (n, (enc n).length, 0) :=
  pn_encF 9 n 9 r (by rw [pow128_10]; omega) (by omega) (by omega) (enc_length9 n h)
end Go.Proofs.YtmpokappjogehaaGreatDoor

/- Contracts of codec.parseNatural, codec.Parse and of the reference's groups, Parse: each returns what 'pn' says and leaves the world alone. -/
namespace Go.Proofs.YtmpokappjogehaaGreatDoor
open Go.RowKit

theorem Rd.byte {w : World} {S : Nat → Prop} {A : Option Addr} {n k : Nat} {l : List UInt8} (h : Rd w S 1 A n (l.map bv)) (hk : k < n) :
    ∃ ad, A = some ad ∧ w.cell? (ad.add k) = some (.int .u8 ((l[k]?.getD 0).toNat : Int)) := by
  obtain ⟨ad, u, e, _, hx, hc⟩ := h.at_ hk
  refine ⟨ad, e, ?_⟩
  rw [hc]
  rw [List.getElem?_map] at hx
  cases hl : l[k]? with
  | none => simp [hl] at hx
  | some b => rw [hl] at hx; simp [bv] at hx; simp [hx]

set_option maxRecDepth 100000 in
set_option maxHeartbeats 1000000 in
theorem parseNatural_any (A : Option Addr) (n c : Nat) (l : List UInt8) (most : Nat) (w : World) (S : Nat → Prop) (hr : Rd w S 1 A n (l.map bv)) (hn : n ≤ 1099511627776) (hm1 : 1 ≤ most) (hm : most ≤ 10) :
    Calls Tryz.prog 308 #[.slice A n c, .int .i64 most] w fun e w' => e = .returned (.tuple #[.int .u64 ((pn l most).1 : Nat), .int .i64 ((pn l most).2.1 : Nat), .int .i64 ((pn l most).2.2 : Nat)]) ∧ w = w' := by
  have hlen : l.length = n := by have := hr.1; simpa using this
  have HL := Lib.hid hlen
  clear hlen
  have HR := Lib.hid hr
  clear hr
  go_enter Tryz.func308, Tryz.ntmps308
  go_wp2
  go_loop [7] (fun i => ∃ k : Nat, k ≤ n ∧ k ≤ most ∧ i = .int .i64 k ∧ Hid (lead l most = k + lead (l.drop k) (most - k))) (fun i => n - (intOf i).toNat)
  case atStart => exact ⟨0, Nat.zero_le _, Nat.zero_le _, rfl, by simp [Hid]⟩
  case round =>
    obtain ⟨k, hk1, hk2, rfl, H⟩ := hrel
    by_cases hcont : k < n ∧ k < most ∧ 128 ≤ (l[k]?.getD 0).toNat
    · obtain ⟨hc1, hc2, hb⟩ := hcont
      obtain ⟨ad, rfl, hc⟩ := HR.out.byte hc1
      have H2 := Lib.hid (lead_step l most k (by rw [HL.out]; exact hc1) hc2 hb)
      have hb2 : (128 : Int) ≤ ((l[k]?.getD 0).toNat : Int) := by omega
      clear hb
      generalize ((l[k]?.getD 0).toNat) = b at hc hb2
      go_wp2
      go_round
      case rel => exact ⟨k + 1, by omega, by omega, by go_num, by have := H.out; have := H2.out; simp only [Hid]; omega⟩
      case measure => simp [intOf]; omega
    · have H2 := Lib.hid (lead_stop l most k (by rw [HL.out]; omega))
      have HK : Hid (lead l most = k) := by have := H.out; have := H2.out; simp only [Hid]; omega
      clear H H2
      by_cases hk9 : k = most
      · clear hcont
        have HP := Lib.hid (pn_most l most (HK.out.trans hk9))
        obtain rfl := hk9
        go_wp2
        all_goals
          go_ret3
          exact ⟨by rw [HP.out]; rfl, rfl⟩
      · have hk2' : k < most := by omega
        have hkm : ((k : Int) == (most : Int)) = false := beq_eq_false_iff_ne.2 (by omega)
        by_cases hkn : k = n
        · clear hcont
          have HP := Lib.hid (pn_trunc l most k HK.out hk2' (by rw [HL.out]; exact hkn))
          clear hk9
          obtain rfl := hkn
          go_wp2
          go_ret3
          exact ⟨by rw [HP.out]; rfl, rfl⟩
        · have hkn2 : k < n := by omega
          have hkn' : ((k : Int) == (n : Int)) = false := beq_eq_false_iff_ne.2 (by omega)
          have hb : (l[k]?.getD 0).toNat < 128 := by omega
          clear hcont hk9 hkn
          obtain ⟨ad, rfl, hc⟩ := HR.out.byte hkn2
          have HQ := Lib.hid (pn_end l most k HK.out hk2' (by rw [HL.out]; omega))
          have hb' : ((l[k]?.getD 0).toNat : Int) < 128 := by omega
          have hbd : decide ((128 : Int) ≤ ((l[k]?.getD 0).toNat : Int)) = false := by simp; omega
          clear hb
          by_cases hz : 0 < k ∧ (l[k]?.getD 0).toNat = 0
          · have HP := Lib.hid (HQ.out.trans (if_pos hz))
            clear HQ
            have hz1 : 0 < k := hz.1
            have hz2 : (((l[k]?.getD 0).toNat : Int) == 0) = true := beq_iff_eq.2 (by omega)
            clear hz
            generalize ((l[k]?.getD 0).toNat) = b at hc hb' hbd hz2
            go_wp2
            go_ret3
            exact ⟨by rw [HP.out]; rfl, rfl⟩
          · have HQ2 := Lib.hid (HQ.out.trans (if_neg hz))
            clear HQ
            by_cases hy : k = 9 ∧ 1 < (l[k]?.getD 0).toNat
            · have HP := Lib.hid (HQ2.out.trans (if_pos hy))
              clear HQ2
              have hz1 : 0 < k := by omega
              have hz2 : (((l[k]?.getD 0).toNat : Int) == 0) = false := beq_eq_false_iff_ne.2 (by omega)
              have hz3 : ((k : Int) == 9) = true := beq_iff_eq.2 (by omega)
              have hz4 : (1 : Int) < ((l[k]?.getD 0).toNat : Int) := by omega
              clear hz hy
              generalize ((l[k]?.getD 0).toNat) = b at hc hb' hbd hz2 hz4
              go_wp2
              go_ret3
              exact ⟨by rw [HP.out]; rfl, rfl⟩
            · have HP := Lib.hid (HQ2.out.trans (if_neg hy))
              clear HQ2
              have HV : Hid (k = 9 → (l[k]?.getD 0).toNat ≤ 1) := by simp only [Hid]; omega
              have HZ : Hid (0 < k → (l[k]?.getD 0).toNat ≠ 0) := by simp only [Hid]; omega
              have hgo : (((k : Int) == 9) = true ∧ 0 < k ∧ (((l[k]?.getD 0).toNat : Int) == 0) = false ∧ decide ((1 : Int) < ((l[k]?.getD 0).toNat : Int)) = false) ∨ (((k : Int) == 9) = false ∧ 0 < k ∧ (((l[k]?.getD 0).toNat : Int) == 0) = false) ∨ (((k : Int) == 9) = false ∧ decide (0 < k) = false) := by
                by_cases h9 : k = 9
                · exact .inl ⟨beq_iff_eq.2 (by omega), by omega, beq_eq_false_iff_ne.2 (by omega), by simp; omega⟩
                · by_cases h0 : 0 < k
                  · exact .inr (.inl ⟨beq_eq_false_iff_ne.2 (by omega), h0, beq_eq_false_iff_ne.2 (by omega)⟩)
                  · exact .inr (.inr ⟨beq_eq_false_iff_ne.2 (by omega), by simpa using h0⟩)
              clear hz hy
              rcases hgo with ⟨h9, h0, hb0, hb1⟩ | ⟨h9, h0, hb0⟩ | ⟨h9, h0⟩
              all_goals
                go_wp2
                clear hb' hbd hkm hkn' hc
                go_loop [8, 9] (fun u i => (∃ j : Nat, j ≤ k ∧ i = .int .i64 j ∧ ∃ x : Nat, x < 144115188075855872 ∧ Hid (x = val ((l.take (k + 1)).drop (j + 1))) ∧ u = .int .u64 x) ∨ (i = .int .i64 (-1) ∧ u = .int .u64 (val (l.take (k + 1))))) (fun _ i => (intOf i + 1).toNat)
                case atStart => exact .inl ⟨k, Nat.le_refl _, rfl, 0, by omega, by simp only [Hid]; rw [List.drop_of_length_le (by simp; omega)]; rfl, rfl⟩
                case round =>
                  rcases hrel with ⟨j, hj, rfl, x, hx, HX, rfl⟩ | ⟨rfl, rfl⟩
                  · obtain ⟨ad', e, hc⟩ := HR.out.byte (k := j) (by omega)
                    obtain rfl : ad = ad' := by injection e
                    clear e
                    have hb := (l[j]?.getD 0).toNat_lt
                    generalize HBB : (l[j]?.getD 0).toNat = b at hc hb
                    have HB := Lib.hid HBB
                    clear HBB
                    go_wp2
                    have hv := val_drop l k j (by rw [HL.out]; omega) hj
                    rw [← HX.out, HB.out] at hv
                    rw [group_or x b hx hb, ← hv]
                    rcases j with _ | j
                    · refine ⟨.inr ⟨rfl, by rw [List.drop_zero]⟩, by simp [intOf]⟩
                    · refine ⟨.inl ⟨j, by omega, by go_num, _, val_small l k j (by rw [HL.out]; omega) (by omega) HV.out, rfl, rfl⟩, by simp [intOf]; omega⟩
                  · go_wp2
                    go_ret3
                    exact ⟨by rw [HP.out]; rfl, rfl⟩

set_option maxHeartbeats 1000000 in
theorem cParse_any (A : Option Addr) (n c : Nat) (l : List UInt8) (w : World) (S : Nat → Prop) (hr : Rd w S 1 A n (l.map bv)) (hn : n ≤ 1099511627776) :
    Calls Tryz.prog 274 #[.slice A n c] w fun e w' => e = .returned (.tuple #[.int .i64 ((pn l 9).1 : Nat), .int .i64 ((pn l 9).2.1 : Nat), .int .i64 ((pn l 9).2.2 : Nat)]) ∧ w = w' := by
  have hp := parseNatural_any A n c l 9 w S hr hn (by omega) (by omega)
  have hb := pn_lt9 l
  generalize (pn l 9).1 = a1 at hp hb ⊢
  generalize (pn l 9).2.1 = a2 at hp ⊢
  generalize (pn l 9).2.2 = a3 at hp ⊢
  have HP := Lib.hid hp
  clear hp hr
  go_enter Tryz.func274, Tryz.ntmps274
  go_wp2_with fail
  refine HP.out.mono ?_
  rintro e w1 ⟨rfl, rfl⟩
  go_wp2
  go_ret3
  exact ⟨rfl, rfl⟩

end Go.Proofs.YtmpokappjogehaaGreatDoor

/- Contracts of codec.appendNatural, slices.Clone, codec.Append and of the reference's Natural. -/
namespace Go.Proofs.YtmpokappjogehaaGreatDoor
open Go.RowKit

theorem info_u8 : (Tryz.prog.info? 5).map (fun i => (i.zero, i.size, i.bytes)) = some (some (.int .u8 0), 1, 1) := by kernel_rfl

theorem oneCell_bv (l : List UInt8) : ∀ u ∈ l.map bv, u.oneCell' = true := by
  intro u hu
  obtain ⟨b, _, rfl⟩ := List.mem_map.1 hu
  rfl

theorem bv_ofNat (n : Nat) (h : n < 256) : bv (b8 n) = .int .u8 (n : Int) := by
  unfold bv b8
  rw [UInt8.toNat_ofNat_of_lt' (by simpa using h)]

/-- A row of bytes. -/
abbrev GrewB (w : World) (v : Value) (w' : World) (v' : Value) (l : List UInt8) : Prop := Grew 5 1 w v w' v' l.length (l.map bv)
abbrev OwnB (w : World) (v : Value) (l : List UInt8) : Prop := w.ownsRow 0 5 1 v l.length (l.map bv)

def SomeGrewB (w : World) (v : Value) (l : List UInt8) (e : Ending) (w' : World) : Prop := ∃ v', e = .returned v' ∧ GrewB w v w' v' l

set_option maxRecDepth 100000 in
set_option maxHeartbeats 1000000 in
theorem appendNatural_any (v : Value) (l : List UInt8) (u : Nat) (w : World) (hown : OwnB w v l) (hl : l.length ≤ 1099511627776) (hu : u < 18446744073709551616) :
    Calls Tryz.prog 265 #[v, .int .u64 u] w (SomeGrewB w v (l ++ enc u)) := by
  obtain ⟨i0, hi, hz0, hz1, hz2⟩ := info_parts info_u8
  have HO := Lib.hid hown
  clear hown
  go_enter Tryz.func265, Tryz.ntmps265
  go_wp2
  go_loopw [0, 1] (fun v' t wr => ∃ (x : Nat) (l' : List UInt8), x < 18446744073709551616 ∧ t = .int .u64 x ∧ Hid (enc u = l' ++ enc x) ∧ GrewB w v wr v' (l ++ l')) (fun _ t _ => (intOf t).toNat)
  case atStart => exact ⟨u, [], hu, rfl, rfl, by simpa using Grew.start HO.out⟩
  case round =>
    obtain ⟨x, l', hx, rfl, HE, hg⟩ := hrel
    by_cases hx8 : 128 ≤ x
    · go_wp2_with (at_builtin; refine wpList_app1 _ rfl _ _ 22 rfl 5 i0 _ 1 1 Tryz.underlying22 hi hz0 hz1 hz2 rfl (by omega) _ _ _ rfl hg.own 1 _ _ rfl rfl rfl ?c1 ?c2 (by omega) ?_)
      case c1 => simp [Value.oneCell']
      case c2 => have := enc_length u; rw [HE.out] at this; simp at this ⊢; omega
      intro v2 w2 hg2
      rw [more_or] at hg2
      have HG : Hid (GrewB w v w2 v2 (l ++ (l' ++ [b8 (x % 128 + 128)]))) := by
        have := hg.trans hg2
        simpa [Hid, GrewB, bv_ofNat _ (show x % 128 + 128 < 256 by omega), Nat.add_assoc] using this
      clear hg hg2
      rw [more_or]
      go_wp2
      go_roundw
      case rel => exact ⟨x / 128, _, by omega, by go_num, by simp only [Hid]; rw [HE.out, enc_step hx8 hx]; simp, HG.out⟩
      case measure => simp [intOf]; omega
    · go_wp2_with (at_builtin; refine wpList_app1 _ rfl _ _ 22 rfl 5 i0 _ 1 1 Tryz.underlying22 hi hz0 hz1 hz2 rfl (by omega) _ _ _ rfl hg.own 1 _ _ rfl rfl rfl ?d1 ?d2 (by omega) ?_)
      case d1 => simp [Value.oneCell']
      case d2 => have := enc_length u; rw [HE.out] at this; simp at this ⊢; omega
      intro v2 w2 hg2
      have HG : Hid (GrewB w v w2 v2 (l ++ enc u)) := by
        have := hg.trans hg2
        have e : (x : Int) % 256 = (x : Int) := by omega
        rw [HE.out, enc_small (by omega)]
        simpa [Hid, GrewB, bv_ofNat _ (show x < 256 by omega), Nat.add_assoc, e] using this
      clear hg hg2
      go_wp2
      go_ret
      exact ⟨_, rfl, HG.out⟩

set_option maxHeartbeats 1000000 in
theorem Clone_any (A : Option Addr) (n c : Nat) (l : List UInt8) (w : World) (S : Nat → Prop) (hr : Rd w S 1 A n (l.map bv)) (hn : n ≤ 1099511627776) :
    Calls Tryz.prog 266 #[.slice A n c] w (SomeGrewB w (.slice none 0 0) l) := by
  obtain ⟨i0, hi, hz0, hz1, hz2⟩ := info_parts info_u8
  have hq := fun (w : World) => Lib.run_eql_slice_nil (P := Tryz.prog) w 22 5 A n c 0 0 Tryz.underlying22
  have hlen : l.length = n := by have := hr.1; simpa using this
  have HL := Lib.hid hlen
  clear hlen
  rcases A with _ | ad
  · have hn0 : n = 0 := by
      rcases Nat.eq_zero_or_pos n with h | h
      · exact h
      · obtain ⟨ad, e, _⟩ := hr.2 h
        cases e
    have hl0 : l = [] := List.eq_nil_of_length_eq_zero (by rw [HL.out]; exact hn0)
    subst hl0
    subst hn0
    clear hr
    go_enter Tryz.func266, Tryz.ntmps266
    go_wp2
    go_ret
    exact ⟨_, rfl, Grew.start (World.ownsRow_nil _ _ _ _)⟩
  · go_enter Tryz.func266, Tryz.ntmps266
    go_wp2_with (at_builtin; refine wpList_app _ rfl _ _ 22 rfl 5 i0 _ 1 1 Tryz.underlying22 hi hz0 hz1 hz2 rfl (by omega) _ 0 [] rfl ?c1 _ _ n c _ rfl (hr.fr0 ((Fr.refl _ _).alloc _)) (oneCell_bv _) (by omega) (by omega) ?_)
    case c1 => exact World.ownsRow_lit (size := 1) _ _ 0 (Nat.zero_le _) (by simp [maxLen]) rfl
    intro v2 w2 hg2
    have HG : Hid (GrewB w (.slice none 0 0) w2 v2 l) := by
      have := Grew.fresh ((Fr.refl _ _).alloc _) (fun k hk => by simp [Value.ownBlock] at hk; omega) hg2
      have e := HL.out
      simpa [Hid, GrewB, e] using this
    clear hg2
    go_wp2
    go_ret
    exact ⟨_, rfl, HG.out⟩

def SomeApp (w : World) (v : Value) (l : List UInt8) (err : Int) (e : Ending) (w' : World) : Prop := ∃ v', e = .returned (.tuple #[v', .int .i64 err]) ∧ GrewB w v w' v' l

end Go.Proofs.YtmpokappjogehaaGreatDoor

/- Contracts of codec.Writer's methods. -/
namespace Go.Proofs.YtmpokappjogehaaGreatDoor
open Go.RowKit

/-- Block g is a Writer that has written l and holds the error f; v is its slice. -/
structure Wr (w : World) (g : Nat) (v : Value) (l : List UInt8) (f : Int) : Prop where
  blk : Blk w g 301 #[v, .int .i64 f]
  own : OwnB w v l

def WrT (g : Nat) (v : Value) : Nat → Prop := fun k => k = g ∨ v.ownBlock = some k

structure WrStep (w : World) (g : Nat) (v : Value) (w' : World) (v' : Value) (st : List UInt8 × Int) : Prop where
  wr : Wr w' g v' st.1 st.2
  fr : Fr (WrT g v) w w'
  lies : ∀ k, v'.ownBlock = some k → v.ownBlock = some k ∨ w.heap.size ≤ k

def WrPost (w : World) (g : Nat) (v : Value) (st : List UInt8 × Int) (e : Ending) (w' : World) : Prop := e = .returned (.tuple #[]) ∧ ∃ v', WrStep w g v w' v' st

section
variable {w w1 w2 : World} {g : Nat} {v v1 v2 : Value} {l : List UInt8} {f : Int} {st st1 st2 : List UInt8 × Int} {T : Nat → Prop}
theorem Wr.far (h : Wr w g v l f) (hf : Fr T w w1) (hT : ∀ k, WrT g v k → ¬ T k) : Wr w1 g v l f :=
  ⟨h.blk.fr hf (hT g (.inl rfl)), own_fr h.own hf (fun k hk => hT k (.inr hk))⟩
theorem WrStep.start (h : Wr w g v l f) : WrStep w g v w v (l, f) := ⟨h, Fr.refl _ _, fun _ hk => .inl hk⟩
theorem WrStep.trans (h : WrStep w g v w1 v1 st1) (k : WrStep w1 g v1 w2 v2 st2) : WrStep w g v w2 v2 st2 :=
  ⟨k.wr, h.fr.then_ k.fr (fun i hi hr => by
      rcases hr with hr | hr
      · exact .inl hr
      · rcases h.lies i hr with h1 | h1
        · exact .inr h1
        · omega),
   fun i hi => by
    rcases k.lies i hi with h1 | h1
    · exact h.lies i h1
    · exact .inr (Nat.le_trans h.fr.size h1)⟩
/-- What an append to the slice, stored back, does. -/
theorem WrStep.store (h : Wr w g v l f) {l' : List UInt8} (k : GrewB w v w1 v1 l') : WrStep w g v (w1.setCell ⟨g, 0, none⟩ v1) v1 (l', f) := by
  have hne : v.ownBlock ≠ some g := own_blk_ne h.own h.blk (by decide)
  have hb1 : Blk w1 g 301 #[v, .int .i64 f] := h.blk.fr k.fr (fun hr => hne hr)
  have hlt := h.blk.lt
  have hne1 : ∀ i, v1.ownBlock = some i → i ≠ g := fun i hi e => by
    subst e
    rcases k.lies i hi with h1 | h1
    · exact hne h1
    · omega
  refine ⟨⟨by simpa using hb1.set_ 0 v1, own_fr k.own ((Fr.refl (fun k => k = g) w1).setCell (fun _ => rfl) _) (fun i hi => hne1 i hi)⟩, ?_, k.lies⟩
  exact (k.fr.mono (fun i _ hi => .inr hi)).setCell (fun _ => .inl rfl) _
theorem WrStep.fail (h : Wr w g v l f) (f' : Int) : WrStep w g v (w.setCell ⟨g, 1, none⟩ (.int .i64 f')) v (l, f') := by
  have hne : v.ownBlock ≠ some g := own_blk_ne h.own h.blk (by decide)
  refine ⟨⟨by simpa using h.blk.set_ 1 (.int .i64 f'), own_fr h.own ((Fr.refl (fun k => k = g) w).setCell (fun _ => rfl) _) (fun i hi e => hne (e ▸ hi))⟩, ?_, fun _ hk => .inl hk⟩
  exact (Fr.refl _ _).setCell (fun _ => .inl rfl) _
end

def zig (n : Int) : Nat := if n < 0 then (2 * (-n - 1) + 1).toNat else (2 * n).toNat
def strL (s : ByteArray) : List UInt8 := s.data.toList

theorem zig_pos (n : Int) (h : 0 ≤ n) : n * 2 = ((zig n : Nat) : Int) := by
  unfold zig
  rw [if_neg (by omega)]
  omega

theorem nat_not64 (a : Nat) (ha : a < 18446744073709551616) : 18446744073709551615 ^^^ a = 18446744073709551615 - a := by
  have h1 : (BitVec.allOnes 64 ^^^ BitVec.ofNat 64 a).toNat = (~~~ (BitVec.ofNat 64 a)).toNat := by rw [BitVec.allOnes_xor]
  rw [BitVec.toNat_not, BitVec.toNat_xor, BitVec.toNat_allOnes, BitVec.toNat_ofNat, Nat.mod_eq_of_lt (by simpa using ha)] at h1
  simpa using h1

theorem zig_neg (n : Int) (h : n < 0) (h2 : -9223372036854775808 ≤ n) : bits .xor .u64 IntKind.u64.max (IntKind.u64.wrap (IntKind.u64.wrap n * 2)) = ((zig n : Nat) : Int) := by
  have e1 : IntKind.u64.wrap (IntKind.u64.wrap n * 2) = 2 * n + 18446744073709551616 := by
    simp only [IntKind.wrap, IntKind.bits, IntKind.signed]
    simp
    omega
  have e2 : IntKind.u64.max = 18446744073709551615 := by decide
  rw [e1, e2, u64_xor _ _ (by omega) (by omega) (by omega) (by omega)]
  have e3 : (2 * n + 18446744073709551616).toNat < 18446744073709551616 := by omega
  have e4 := nat_not64 _ e3
  have e5 : (18446744073709551615 : Int).toNat = 18446744073709551615 := by decide
  rw [e5, e4]
  unfold zig
  rw [if_pos h]
  omega

theorem zig_lt (n : Int) (h : n ≤ 9223372036854775807) (h2 : -9223372036854775808 ≤ n) : zig n < 18446744073709551616 := by
  unfold zig
  split <;> omega

def wNumber (st : List UInt8 × Int) (n : Int) : List UInt8 × Int := if st.2 = 0 then (if n < 0 then (st.1, 2) else (st.1 ++ enc n.toNat, 0)) else st
theorem wNumber_pos (l : List UInt8) (u : Nat) : wNumber (l, 0) (u : Int) = (l ++ enc u, 0) := by
  unfold wNumber
  rw [if_pos rfl, if_neg (by omega)]
  rfl
def wSigned (st : List UInt8 × Int) (n : Int) : List UInt8 × Int := if st.2 = 0 then (st.1 ++ enc (zig n), 0) else st
def wFlag (st : List UInt8 × Int) (b : Bool) : List UInt8 × Int := if st.2 = 0 then (st.1 ++ [if b then 1 else 0], 0) else st
def wText (st : List UInt8 × Int) (s : List UInt8) : List UInt8 × Int := if st.2 = 0 then (if 16777216 < s.length then (st.1, 5) else (st.1 ++ (enc s.length ++ s), 0)) else st

theorem strL_length (s : ByteArray) : (strL s).length = s.size := by simp [strL]
theorem strCells_bv (s : ByteArray) : Lib.strCells s = (strL s).map bv := rfl
theorem wText_big (l : List UInt8) (s : ByteArray) (h : 16777216 < s.size) : wText (l, 0) (strL s) = (l, 5) := by
  unfold wText
  rw [if_pos rfl, if_pos (by rw [strL_length]; exact h)]
theorem wText_small (l : List UInt8) (s : ByteArray) (h : ¬ 16777216 < s.size) : wText (l, 0) (strL s) = (l ++ (enc s.size ++ strL s), 0) := by
  unfold wText
  rw [if_pos rfl, if_neg (by rw [strL_length]; exact h), strL_length]

set_option maxHeartbeats 1000000 in
theorem works_any (g : Nat) (v : Value) (f : Int) (w : World) (hb : Blk w g 301 #[v, .int .i64 f]) (B : Bool) (hB : (f == 0) = B) :
    Calls Tryz.prog 264 #[.pointer (some ⟨g, 0, none⟩)] w fun e w' => e = .returned (.bool B) ∧ w = w' := by
  have hc1 : w.cell? ⟨g, 1, none⟩ = some (.int .i64 f) := hb.cell 1
  clear hb
  go_enter Tryz.func264, Tryz.ntmps264
  go_wp2
  go_ret
  exact ⟨rfl, rfl⟩

set_option maxHeartbeats 1000000 in
theorem wNumber_any (g : Nat) (v : Value) (l : List UInt8) (f : Int) (n : Int) (w : World) (h : Wr w g v l f) (hl : l.length ≤ 1099511627776) (hn : n ≤ 9223372036854775807) :
    Calls Tryz.prog 183 #[.pointer (some ⟨g, 0, none⟩), .int .i64 n] w (WrPost w g v (wNumber (l, f) n)) := by
  have HW := Lib.hid h
  have hc0 : w.cell? ⟨g, 0, none⟩ = some v := h.blk.cell 0
  have hc1 : w.cell? ⟨g, 1, none⟩ = some (.int .i64 f) := h.blk.cell 1
  have hf0 := h.blk.frozen 0
  have hf1 := h.blk.frozen 1
  clear h
  by_cases hf : f = 0
  · subst hf
    by_cases hneg : n < 0
    · go_enter Tryz.func183, Tryz.ntmps183
      go_wp2_with fail
      refine (works_any g v 0 _ HW.out.blk true rfl).mono ?_
      rintro e w1 ⟨rfl, rfl⟩
      go_wp2
      go_end0
      exact ⟨rfl, v, by simpa [wNumber, hneg] using WrStep.fail HW.out 2⟩
    · obtain ⟨u, rfl⟩ := Int.eq_ofNat_of_zero_le (by omega : 0 ≤ n)
      go_enter Tryz.func183, Tryz.ntmps183
      go_wp2_with fail
      refine (works_any g v 0 _ HW.out.blk true rfl).mono ?_
      rintro e w1 ⟨rfl, rfl⟩
      go_wp2_with fail
      refine (appendNatural_any v l u _ HW.out.own hl (by omega)).mono ?_
      rintro e w2 ⟨v2, rfl, hg2⟩
      obtain ⟨A2, n2, c2, rfl, _, _⟩ := own_slice hg2.own
      have HS := Lib.hid (WrStep.store HW.out hg2)
      have hff : w2.frozen? ⟨g, 0, none⟩ = false := (Blk.fr HW.out.blk hg2.fr (fun hr => own_blk_ne HW.out.own HW.out.blk (by decide) hr)).frozen 0
      have hcc : w2.cell? ⟨g, 0, none⟩ = some v := (Blk.fr HW.out.blk hg2.fr (fun hr => own_blk_ne HW.out.own HW.out.blk (by decide) hr)).cell 0
      clear hg2
      go_wp2
      go_end0
      exact ⟨rfl, _, by rw [wNumber_pos]; exact HS.out⟩
  · have hfb : (f == 0) = false := beq_eq_false_iff_ne.2 hf
    go_enter Tryz.func183, Tryz.ntmps183
    go_wp2_with fail
    refine (works_any g v f _ HW.out.blk false hfb).mono ?_
    rintro e w1 ⟨rfl, rfl⟩
    go_wp2
    go_end0
    exact ⟨rfl, v, by simpa [wNumber, hf] using WrStep.start HW.out⟩

set_option maxHeartbeats 1000000 in
theorem wFlag_any (g : Nat) (v : Value) (l : List UInt8) (f : Int) (b : Bool) (w : World) (h : Wr w g v l f) (hl : l.length ≤ 1099511627776) :
    Calls Tryz.prog 270 #[.pointer (some ⟨g, 0, none⟩), .bool b] w (WrPost w g v (wFlag (l, f) b)) := by
  obtain ⟨i0, hi, hz0, hz1, hz2⟩ := info_parts info_u8
  have HW := Lib.hid h
  have hc0 : w.cell? ⟨g, 0, none⟩ = some v := h.blk.cell 0
  have hc1 : w.cell? ⟨g, 1, none⟩ = some (.int .i64 f) := h.blk.cell 1
  have hf1 := h.blk.frozen 1
  clear h
  by_cases hf : f = 0
  · subst hf
    cases b
    · go_enter Tryz.func270, Tryz.ntmps270
      go_wp2_with fail
      refine (works_any g v 0 _ HW.out.blk true rfl).mono ?_
      rintro e w1 ⟨rfl, rfl⟩
      go_wp2_with (at_builtin; refine wpList_app1 _ rfl _ _ 22 rfl 5 i0 _ 1 1 Tryz.underlying22 hi hz0 hz1 hz2 rfl (by omega) _ _ _ rfl HW.out.own 1 _ _ rfl rfl rfl (by simp [Value.oneCell']) (by omega) (by omega) ?_)
      intro v2 w2 hg2'
      have hg2 : GrewB w v w2 v2 (l ++ [0]) := by simpa [GrewB, bv] using hg2'
      clear hg2'
      obtain ⟨A2, n2, c2, rfl, _, _⟩ := own_slice hg2.own
      have HS := Lib.hid (WrStep.store HW.out hg2)
      have hff : w2.frozen? ⟨g, 0, none⟩ = false := (Blk.fr HW.out.blk hg2.fr (fun hr => own_blk_ne HW.out.own HW.out.blk (by decide) hr)).frozen 0
      have hcc : w2.cell? ⟨g, 0, none⟩ = some v := (Blk.fr HW.out.blk hg2.fr (fun hr => own_blk_ne HW.out.own HW.out.blk (by decide) hr)).cell 0
      clear hg2
      go_wp2
      go_end0
      exact ⟨rfl, _, by rw [show wFlag (l, 0) _ = (l ++ [0], 0) from rfl]; exact HS.out⟩
    · go_enter Tryz.func270, Tryz.ntmps270
      go_wp2_with fail
      refine (works_any g v 0 _ HW.out.blk true rfl).mono ?_
      rintro e w1 ⟨rfl, rfl⟩
      go_wp2_with (at_builtin; refine wpList_app1 _ rfl _ _ 22 rfl 5 i0 _ 1 1 Tryz.underlying22 hi hz0 hz1 hz2 rfl (by omega) _ _ _ rfl HW.out.own 1 _ _ rfl rfl rfl (by simp [Value.oneCell']) (by omega) (by omega) ?_)
      intro v2 w2 hg2'
      have hg2 : GrewB w v w2 v2 (l ++ [1]) := by simpa [GrewB, bv] using hg2'
      clear hg2'
      obtain ⟨A2, n2, c2, rfl, _, _⟩ := own_slice hg2.own
      have HS := Lib.hid (WrStep.store HW.out hg2)
      have hff : w2.frozen? ⟨g, 0, none⟩ = false := (Blk.fr HW.out.blk hg2.fr (fun hr => own_blk_ne HW.out.own HW.out.blk (by decide) hr)).frozen 0
      have hcc : w2.cell? ⟨g, 0, none⟩ = some v := (Blk.fr HW.out.blk hg2.fr (fun hr => own_blk_ne HW.out.own HW.out.blk (by decide) hr)).cell 0
      clear hg2
      go_wp2
      go_end0
      exact ⟨rfl, _, by rw [show wFlag (l, 0) _ = (l ++ [1], 0) from rfl]; exact HS.out⟩
  · have hfb : (f == 0) = false := beq_eq_false_iff_ne.2 hf
    go_enter Tryz.func270, Tryz.ntmps270
    go_wp2_with fail
    refine (works_any g v f _ HW.out.blk false hfb).mono ?_
    rintro e w1 ⟨rfl, rfl⟩
    go_wp2
    go_end0
    exact ⟨rfl, v, by simpa [wFlag, hf] using WrStep.start HW.out⟩

set_option maxHeartbeats 1000000 in
set_option maxRecDepth 100000 in
theorem wText_any (g : Nat) (v : Value) (l : List UInt8) (f : Int) (s : ByteArray) (w : World) (h : Wr w g v l f) (hl : l.length ≤ 1099511627776) (hs : s.size ≤ 140737488351232) :
    Calls Tryz.prog 184 #[.pointer (some ⟨g, 0, none⟩), .string s] w (WrPost w g v (wText (l, f) (strL s))) := by
  obtain ⟨i0, hi, hz0, hz1, hz2⟩ := info_parts info_u8
  have HW := Lib.hid h
  have hc0 : w.cell? ⟨g, 0, none⟩ = some v := h.blk.cell 0
  have hc1 : w.cell? ⟨g, 1, none⟩ = some (.int .i64 f) := h.blk.cell 1
  have hf1 := h.blk.frozen 1
  clear h
  by_cases hf : f = 0
  · subst hf
    by_cases hbig : 16777216 < s.size
    · go_enter Tryz.func184, Tryz.ntmps184
      go_wp2_with fail
      refine (works_any g v 0 _ HW.out.blk true rfl).mono ?_
      rintro e w1 ⟨rfl, rfl⟩
      go_wp2
      go_end0
      exact ⟨rfl, v, by rw [wText_big _ _ hbig]; exact WrStep.fail HW.out 5⟩
    · go_enter Tryz.func184, Tryz.ntmps184
      go_wp2_with fail
      refine (works_any g v 0 _ HW.out.blk true rfl).mono ?_
      rintro e w1 ⟨rfl, rfl⟩
      go_wp2_with fail
      refine (appendNatural_any v l s.size _ HW.out.own hl (by omega)).mono ?_
      rintro e w2 ⟨v2, rfl, hg2⟩
      have HG := Lib.hid hg2
      clear hg2
      go_wp2_with (at_builtin; refine wpList_app_string _ rfl _ _ 22 9 rfl 5 i0 Tryz.underlying22 Tryz.underlying9 hi hz0 hz1 hz2 _ _ _ rfl HG.out.own s rfl ?c1 ?_)
      case c1 => have := enc_length s.size; simp; omega
      intro v3 w3 hg3
      have hg2 : GrewB w v w3 v3 (l ++ (enc s.size ++ strL s)) := by
        have := HG.out.trans hg3
        rw [strCells_bv] at this
        simpa [GrewB, strL_length, Nat.add_assoc] using this
      clear hg3
      obtain ⟨A2, n2, c2, rfl, _, _⟩ := own_slice hg2.own
      have HS := Lib.hid (WrStep.store HW.out hg2)
      have hff : w3.frozen? ⟨g, 0, none⟩ = false := (Blk.fr HW.out.blk hg2.fr (fun hr => own_blk_ne HW.out.own HW.out.blk (by decide) hr)).frozen 0
      have hcc : w3.cell? ⟨g, 0, none⟩ = some v := (Blk.fr HW.out.blk hg2.fr (fun hr => own_blk_ne HW.out.own HW.out.blk (by decide) hr)).cell 0
      clear hg2
      go_wp2
      go_end0
      exact ⟨rfl, _, by rw [wText_small _ _ hbig]; exact HS.out⟩
  · have hfb : (f == 0) = false := beq_eq_false_iff_ne.2 hf
    go_enter Tryz.func184, Tryz.ntmps184
    go_wp2_with fail
    refine (works_any g v f _ HW.out.blk false hfb).mono ?_
    rintro e w1 ⟨rfl, rfl⟩
    go_wp2
    go_end0
    exact ⟨rfl, v, by simpa [wText, hf] using WrStep.start HW.out⟩

theorem OwnB.rd {w : World} {A : Option Addr} {n c : Nat} {l : List UInt8} (h : OwnB w (.slice A n c) l) (hn : n = l.length) : Rd w (Rows1 (.slice A n c)) 1 A n (l.map bv) := by
  subst hn
  exact Rd.of_own h

/-- A new Writer in block g. -/
def WrNew (w : World) (e : Ending) (w' : World) : Prop := e = .returned (.pointer (some ⟨w.heap.size, 0, none⟩)) ∧ Wr w' w.heap.size (.slice none 0 0) [] 0 ∧ Fr Nothing w w'

set_option maxHeartbeats 1000000 in
theorem NewWriter_any (w : World) : Calls Tryz.prog 182 #[] w (WrNew w) := by
  go_enter Tryz.func182, Tryz.ntmps182
  go_wp2
  go_ret
  exact ⟨rfl, ⟨Blk.new _ _ _, World.ownsRow_nil _ _ _ _⟩, (Fr.refl _ _).alloc _⟩

def BytesPost (w : World) (l : List UInt8) (f : Int) (e : Ending) (w' : World) : Prop :=
  (f ≠ 0 → e = .returned (.tuple #[.slice none 0 0, .int .i64 f]) ∧ Fr Nothing w w') ∧ (f = 0 → SomeApp w (.slice none 0 0) l 0 e w')

set_option maxHeartbeats 1000000 in
theorem wBytes_any (g : Nat) (v : Value) (l : List UInt8) (f : Int) (w : World) (h : Wr w g v l f) (hl : l.length ≤ 1099511627776) :
    Calls Tryz.prog 185 #[.pointer (some ⟨g, 0, none⟩)] w (BytesPost w l f) := by
  have hc0 : w.cell? ⟨g, 0, none⟩ = some v := h.blk.cell 0
  have hc1 : w.cell? ⟨g, 1, none⟩ = some (.int .i64 f) := h.blk.cell 1
  obtain ⟨A2, n2, c2, rfl, H2, _⟩ := own_slice h.own
  have HW := Lib.hid h
  clear h
  by_cases hf : f = 0
  · subst hf
    go_enter Tryz.func185, Tryz.ntmps185
    go_wp2_with fail
    have hr := OwnB.rd HW.out.own H2.out
    refine (Clone_any A2 n2 c2 l _ _ hr (by rw [H2.out]; exact hl)).mono ?_
    rintro e w2 ⟨v2, rfl, hg2⟩
    have HG := Lib.hid hg2
    clear hg2 hr
    go_wp2
    go_ret2
    exact ⟨fun h => absurd rfl h, fun _ => ⟨_, rfl, HG.out⟩⟩
  · have hfb : (f != 0) = true := by rw [bne_iff_ne]; exact hf
    go_enter Tryz.func185, Tryz.ntmps185
    go_wp2
    go_quiet (fail)
    go_wp2
    go_ret2
    exact ⟨fun _ => ⟨rfl, (Fr.refl _ _).drewN _⟩, fun h => absurd h hf⟩

end Go.Proofs.YtmpokappjogehaaGreatDoor

/- string(b). -/
namespace Go.Proofs.YtmpokappjogehaaGreatDoor
open Go.RowKit

theorem ba_pushC (l : List UInt8) : ∀ (s : ByteArray), (l.map (fun b : UInt8 => (b.toNat : Int))).foldl (fun r n => r.push (UInt8.ofNat n.toNat)) s = ⟨(s.data.toList ++ l).toArray⟩ := by
  induction l with
  | nil => intro s; simp
  | cons b l ih =>
    intro s
    simp only [List.map_cons, List.foldl_cons]
    rw [ih]
    congr 1
    have e : UInt8.ofNat (Int.toNat (b.toNat : Int)) = b := by simp
    rw [e]
    simp [ByteArray.push]

/-- string(b) of a slice that reads as l. -/
theorem run_strC {P : Program} (w : World) (src dst e : TypeId) (hs : P.underlying src = some (.slice e)) (he : P.underlying e = some (.int .u8)) (hd : P.underlying dst = some .string)
    (S : Nat → Prop) (A : Option Addr) (n c : Nat) (l : List UInt8) (hr : Rd w S 1 A n (l.map bv)) : (convert src dst (.slice A n c)).run P w = .ok (.string ⟨l.toArray⟩) w := by
  rw [run_convert_bytes_string w src dst e A n c hs he hd]
  have hl : l.length = n := by simpa using hr.1
  rcases A with _ | ad
  · have : l = [] := by
      rcases Nat.eq_zero_or_pos n with h | h
      · exact List.eq_nil_of_length_eq_zero (hl.trans h)
      · obtain ⟨ad, e, _⟩ := hr.2 h
        cases e
    subst this
    rfl
  · have hc : ∀ j v, (l.map bv)[j]? = some v → w.cell? (ad.add j) = some v := by
      intro j v hv
      rcases Nat.eq_zero_or_pos n with h | h
      · have : l = [] := List.eq_nil_of_length_eq_zero (hl.trans h)
        subst this
        simp at hv
      · obtain ⟨ad', e, _, h'⟩ := hr.2 h
        injection e with e
        subst e
        exact h' j v hv
    have h1 := run_loadCells_list (P := P) w ad (l.map bv) hc
    rw [List.length_map, hl] at h1
    rw [run_bytesToString w ad n c (l.map (fun b : UInt8 => (b.toNat : Int))) (by rw [h1]; simp [bv, Function.comp_def])]
    rw [ba_pushC]
    rfl

abbrev run_strT (w : World) (S : Nat → Prop) (A : Option Addr) (n c : Nat) (l : List UInt8) (hr : Rd w S 1 A n (l.map bv)) : (convert 22 9 (.slice A n c)).run Tryz.prog w = .ok (.string ⟨l.toArray⟩) w :=
  run_strC w 22 9 5 Tryz.underlying22 Tryz.underlying5 Tryz.underlying9 S A n c l hr
end Go.Proofs.YtmpokappjogehaaGreatDoor

/- The reference's Text (as in XCodecR, for seats without the values). -/
namespace Go.Proofs.YtmpokappjogehaaGreatDoor
open Go.RowKit

theorem strL_snoc (s : ByteArray) (k : Nat) (h : k < s.size) : (strL s).take (k + 1) = (strL s).take k ++ [s[k]] := by
  unfold strL
  rw [List.take_succ_eq_append_getElem (by simpa using h)]; rfl

def textK (s : ByteArray) (k : Nat) : List UInt8 := enc s.size ++ (strL s).take k
def textL (s : ByteArray) : List UInt8 := enc s.size ++ strL s

theorem GrewB.app {w w3 w4 : World} {v v3 v4 : Value} {L R : List UInt8} {m : Nat} (h : GrewB w v w3 v3 L) (k : Grew 5 1 w3 v3 w4 v4 (L.length + m) (L.map bv ++ R.map bv)) (hm : m = R.length) : GrewB w v w4 v4 (L ++ R) := by
  subst hm
  have := h.trans k
  simpa [GrewB] using this
end Go.Proofs.YtmpokappjogehaaGreatDoor
