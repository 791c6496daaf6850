/- codec.Size, and the walk of the law CodecNumbers. -/
import Derived.Test.YtfopfhdijdefiaaCodecE
import Derived.Test.YtfopfhdijdefiaaShelf
import Derived.Deep.DeepCutAuto
namespace Go.Proofs.Ytfopfhdijdefiaa
open Go.RowKit

theorem ret_int {k : IntKind} {a b : Int} (h : a = b) : Ending.returned (.int k a) = .returned (.int k b) := by rw [h]
theorem bitLen_zero : Lib.bitLen 0 = 0 := by decide +kernel
theorem encF_bits : ∀ (k n : Nat), n < 128 ^ (k + 1) → n < 18446744073709551616 → (encF k n).length = max 1 ((Lib.bitLen n + 6) / 7)
  | 0, n, h, h64 => by
    have h1 := Lib.bitLen_le n 7 (by omega) (by simpa using h)
    simp only [encF, List.length_singleton]
    omega
  | k + 1, n, h, h64 => by
    by_cases hn : n < 128
    · have h1 := Lib.bitLen_le n 7 (by omega) (by simpa using hn)
      simp only [encF, if_pos hn, List.length_singleton]
      omega
    · have h2 : n / 128 < 128 ^ (k + 1) := by
        rw [Nat.pow_succ] at h
        exact Nat.div_lt_of_lt_mul (by rw [Nat.mul_comm]; exact h)
      have h3 := Lib.bitLen_shift 7 n (by simpa using hn) (by simpa using h64)
      rw [encF_step _ _ (by omega), List.length_cons, encF_bits k _ h2 (by omega)]
      have h4 : n / 128 ≠ 0 := by omega
      have h5 := Lib.bitLen_half (n / 128) h4 (by omega)
      rw [show (2 : Nat) ^ 7 = 128 by decide] at h3
      omega
theorem enc_bits (n : Nat) (h : n < 18446744073709551616) : (enc n).length = max 1 ((Lib.bitLen n + 6) / 7) := encF_bits 9 n (by
  have : (128 : Nat) ^ (9 + 1) = 1180591620717411303424 := by decide
  omega) h

set_option maxHeartbeats 400000 in
theorem Size_any (n : Nat) (w : World) (hn : n < 9223372036854775808) :
    Calls Try.prog 24 #[.int .i64 n] w fun e w' => e = .returned (.int .i64 ((enc n).length : Nat)) ∧ w = w' := by
  have HB := Lib.hid (enc_bits n (by omega))
  have hle := Lib.bitLen_le n 64 (by omega) (by omega)
  go_enter Try.func24, Try.ntmps24
  go_wp2_with fail
  refine (Try.bits_Len n _ (by omega) (by omega)).mono ?_
  rintro e w1 ⟨rfl, rfl⟩
  rw [Int.toNat_natCast]
  generalize Lib.bitLen n = x at HB hle ⊢
  go_wp2
  go_ret
  refine ⟨ret_int ?_, rfl⟩
  rw [HB.out]
  omega

set_option maxHeartbeats 400000 in
theorem Size_neg (n : Int) (w : World) (hn : n < 0) :
    Calls Try.prog 24 #[.int .i64 n] w fun e w' => e = .returned (.int .i64 0) ∧ w = w' := by
  go_enter Try.func24, Try.ntmps24
  go_wp2
  go_ret
  exact ⟨rfl, rfl⟩

theorem min_cast (n m : Nat) : min (n : Int) (m : Int) = ((min n m : Nat) : Int) := by omega

theorem ba_append (a b : List UInt8) : (⟨a.toArray⟩ ++ ⟨b.toArray⟩ : ByteArray) = ⟨(a ++ b).toArray⟩ := by
  apply ByteArray.ext
  simp [ByteArray.data_append]
theorem ba_append_toList (a b : List UInt8) : (⟨a.toArray⟩ ++ ⟨b.toArray⟩ : ByteArray).toList = a ++ b := by
  rw [ba_append]
  simp [go_sem]

set_option maxRecDepth 100000 in
set_option maxHeartbeats 1000000 in
theorem CodecNumbers_any (u : Int) (A B : Option Addr) (n c m d : Nat) (l r : List UInt8) (w : World) (S : Nat → Prop) (hr : Rd w S 1 A n (l.map bv)) (hq : Rd w S 1 B m (r.map bv)) (hn : n ≤ 9223372036854775807) (hnc : n ≤ c) (hm : m ≤ 9223372036854775807) (hmd : m ≤ d) (hu1 : -9223372036854775808 ≤ u) (hu2 : u ≤ 9223372036854775807) :
    Calls Try.prog 6 #[.int .i64 u, .slice A n c, .slice B m d] w (TrueNew w) := by
  have hmin1 : min (n : Int) 100 = ((min n 100 : Nat) : Int) := min_cast n 100
  have hmin2 : min (m : Int) 100 = ((min m 100 : Nat) : Int) := min_cast m 100
  have HA := Lib.hid (hr.upto 100)
  have HB := Lib.hid (hq.upto 100)
  have h1 : min n 100 ≤ c := by omega
  have h2 : min m 100 ≤ d := by omega
  have h3 : min n 100 ≤ 100 := by omega
  have h4 : min m 100 ≤ 100 := by omega
  generalize min n 100 = n' at hmin1 HA h1 h3
  generalize min m 100 = m' at hmin2 HB h2 h4
  generalize l.take 100 = l' at HA
  generalize r.take 100 = r' at HB
  clear hr hq
  go_enter Try.func6, Try.ntmps6
  go_wp2_with fail
  go_quiet (fail)
  have HF0 : Hid (Fr Nothing w (w.drewN nq)) := (Fr.refl _ _).drewN nq
  have HA0 : Hid (Rd (w.drewN nq) S 1 A n' (l'.map bv)) := HA.out.fr0 HF0.out
  have HB0 : Hid (Rd (w.drewN nq) S 1 B m' (r'.map bv)) := HB.out.fr0 HF0.out
  clear HA HB
  generalize w.drewN nq = w0 at HF0 HA0 HB0 ⊢
  by_cases hneg : u < 0
  · go_wp2_with fail
    refine (Append_neg _ _ _ _ _ hneg).mono ?_
    rintro e w1 ⟨rfl, rfl⟩
    go_wp2_with fail
    refine (known_any _).mono ?_
    rintro e w2 ⟨rfl, hf⟩
    have HF := Lib.hid hf
    clear hf
    go_wp2_with fail
    refine (Size_neg _ _ hneg).mono ?_
    rintro e w1 ⟨rfl, rfl⟩
    go_wp2
    go_ret
    exact ⟨rfl, HF0.out.trans HF.out⟩
  · obtain ⟨x, rfl⟩ := Int.eq_ofNat_of_zero_le (by omega : 0 ≤ u)
    go_wp2_with fail
    refine (Append_any _ _ _ l' x _ S HA0.out (by omega) (by omega)).mono ?_
    rintro e w1 ⟨v1, rfl, hg1⟩
    obtain ⟨A1, n1, c1, rfl, H1, _⟩ := own_slice hg1.own
    have HG1 := Lib.hid hg1
    clear hg1
    go_wp2_with fail
    refine (Natural_any x _ (by omega)).mono ?_
    rintro e w2 ⟨v2, rfl, hg2⟩
    obtain ⟨A2, n2, c2, rfl, H2, _⟩ := own_slice hg2.own
    have HG2 := Lib.hid hg2
    clear hg2
    obtain ⟨i0, hi, hz0, hz1, hz2⟩ := info_parts info_u8
    go_wp2_with (at_builtin; refine wpList_app _ rfl _ _ 22 rfl 5 i0 _ 1 1 Try.underlying22 hi hz0 hz1 hz2 rfl (by omega) _ 0 [] rfl ?c1 _ _ n2 c2 _ rfl ((OwnB.rd HG2.out.own H2.out).fr0 ((Fr.refl _ _).alloc _)) (oneCell_bv _) ?c2 (by omega) ?_)
    case c1 => exact World.ownsRow_lit (size := 1) _ _ 0 (Nat.zero_le _) (by simp [maxLen]) rfl
    case c2 => have := enc_length x; rw [H2.out]; omega
    intro v3 w3 hg3
    have HG3 : Hid (GrewB w2 (.slice none 0 0) w3 v3 (enc x)) := by
      have := Grew.fresh ((Fr.refl _ _).alloc _) (fun k hk => by simp [Value.ownBlock] at hk; omega) hg3
      have e := H2.out
      simpa [Hid, GrewB, e] using this
    clear hg3
    have HB3 : Hid (Rd w3 S 1 B m' (r'.map bv)) := ((HB0.out.fr0 HG1.out.fr0).fr0 HG2.out.fr0).fr0 HG3.out.fr0
    go_wp2_with (at_builtin; refine wpList_app _ rfl _ _ 22 rfl 5 i0 _ 1 1 Try.underlying22 hi hz0 hz1 hz2 rfl (by omega) _ _ _ rfl HG3.out.own _ _ m' d _ rfl HB3.out (oneCell_bv _) ?d2 (by omega) ?_)
    case d2 => have := enc_length x; omega
    intro v4 w4 hg4
    obtain ⟨A4, n4, c4, rfl, H4, _⟩ := own_slice hg4.own
    have hlr : r'.length = m' := by have := HB0.out.1; simpa using this
    have HG4 : Hid (GrewB w2 (.slice none 0 0) w4 (.slice A4 n4 c4) (enc x ++ r')) := by
      have := HG3.out.trans hg4
      simpa [Hid, GrewB, hlr] using this
    have H4' : Hid (n4 = (enc x ++ r').length) := by have := H4.out; simpa [Hid, hlr] using this
    have hn4 : n4 ≤ 110 := by have := H4'.out; have := enc_length x; rw [List.length_append] at *; omega
    clear hg4 hlr H4
    go_wp2_with fail
    refine (Parse_any _ _ _ (enc x ++ r') _ _ (OwnB.rd HG4.out.own H4'.out) (by omega)).mono ?_
    rintro e w5 ⟨rfl, rfl⟩
    rw [pn_enc9 x r' (by omega)]
    go_wp2_with fail
    refine (known_any _).mono ?_
    rintro e w5 ⟨rfl, hf5⟩
    have HF5 := Lib.hid hf5
    have hcv1 := run_strT w5 _ A1 n1 c1 _ (((OwnB.rd HG1.out.own H1.out).fr0 HG2.out.fr0).fr0 (HG4.out.fr0.trans hf5))
    have hcv2 := run_strT w5 _ A n' c _ (((HA0.out.fr0 HG1.out.fr0).fr0 HG2.out.fr0).fr0 (HG4.out.fr0.trans hf5))
    have hcv3 := run_strT w5 _ A2 n2 c2 _ ((OwnB.rd HG2.out.own H2.out).fr0 (HG4.out.fr0.trans hf5))
    have hll : l'.length + (enc x).length ≤ 200 := by
      have h5 := HA0.out.1
      have h6 := enc_length x
      simp only [List.length_map, Nat.mul_one] at h5
      omega
    have hsq := ba_append_toList l' (enc x)
    have hqq : (((enc x).length : Int) == (n2 : Int)) = true := by rw [H2.out]; simp
    clear hf5
    go_wp2_with fail
    refine (Size_any x _ (by omega)).mono ?_
    rintro e w6 ⟨rfl, rfl⟩
    go_wp2
    go_ret
    exact ⟨rfl, (((HF0.out.trans HG1.out.fr0).trans HG2.out.fr0).trans HG4.out.fr0).trans HF5.out⟩
end Go.Proofs.Ytfopfhdijdefiaa
