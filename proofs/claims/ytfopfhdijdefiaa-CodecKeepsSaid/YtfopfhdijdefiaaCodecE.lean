/- The walk of the law CodecParses. -/
import Derived.Test.YtfopfhdijdefiaaCodecD
import Derived.Test.YtfopfhdijdefiaaRegion
namespace Go.Proofs.Ytfopfhdijdefiaa
open Go.RowKit

theorem known_later (w : World) : Calls Try.prog 13 #[] w fun e w' => e = .returned (.bool true) ∧ Fr Nothing w w' := known_any w

theorem Rd.drewN {w : World} {S : Nat → Prop} {size n : Nat} {A : Option Addr} {xs : List Value} (h : Rd w S size A n xs) : Rd w.drew S size A n xs := h

theorem Rd.upto {w : World} {S : Nat → Prop} {A : Option Addr} {n : Nat} {l : List UInt8} (h : Rd w S 1 A n (l.map bv)) (m : Nat) : Rd w S 1 A (min n m) ((l.take m).map bv) := by
  have hl : l.length = n := by simpa using h.1
  have := h.take (k := min n m) (Nat.min_le_left _ _)
  rw [Nat.mul_one, ← List.map_take] at this
  have e : l.take (min n m) = l.take m := by
    rcases Nat.le_total n m with h1 | h1
    · rw [Nat.min_eq_left h1, List.take_of_length_le (by omega), List.take_of_length_le (by omega)]
    · rw [Nat.min_eq_right h1]
  rw [e] at this
  exact this

set_option maxRecDepth 100000 in
set_option maxHeartbeats 1000000 in
theorem CodecParses_any (A : Option Addr) (n c : Nat) (l : List UInt8) (w : World) (S : Nat → Prop) (hr : Rd w S 1 A n (l.map bv)) (hn : n ≤ 9223372036854775807) (hnc : n ≤ c) :
    Calls Try.prog 3 #[.slice A n c] w (TrueNew w) := by
  have hcase : (∃ m, (100 < n ∧ 100 = m) ∧ Hid (Rd w S 1 A m ((l.take 100).map bv))) ∨ (∃ m, (n ≤ 100 ∧ n = m) ∧ Hid (Rd w S 1 A m ((l.take 100).map bv))) := by
    rcases Nat.lt_or_ge 100 n with h | h
    · exact .inl ⟨_, ⟨h, rfl⟩, by have := hr.upto 100; rw [Nat.min_eq_right (by omega)] at this; exact this⟩
    · exact .inr ⟨_, ⟨h, rfl⟩, by have := hr.upto 100; rw [Nat.min_eq_left (by omega)] at this; exact this⟩
  clear hr
  rcases hcase with ⟨m, ⟨hcs, rfl⟩, HR2⟩ | ⟨m, ⟨hcs, rfl⟩, HR2⟩
  all_goals
    go_enter Try.func3, Try.ntmps3
    go_wp2_with fail
    refine (Parse_any _ _ _ (l.take 100) _ _ HR2.out (by omega)).mono ?_
    rintro e w1 ⟨rfl, rfl⟩
    go_wp2_with fail
    refine (refParse_any _ _ _ (l.take 100) _ _ HR2.out (by omega)).mono ?_
    rintro e w1 ⟨rfl, rfl⟩
    rcases pn_cases (l.take 100) 9 (by omega) with (h | h) | ⟨k, h0, h1, h2, h3, h4, h5, h⟩
    · rw [h]
      clear h
      go_wp2_with fail
      refine (known_any _).mono ?_
      rintro e w2 ⟨rfl, hf⟩
      go_wp2
      go_ret
      exact ⟨rfl, hf⟩
    · rw [h]
      clear h
      go_wp2_with fail
      refine (known_any _).mono ?_
      rintro e w2 ⟨rfl, hf⟩
      go_wp2
      go_ret
      exact ⟨rfl, hf⟩
    · have hlt := pn_lt9 (l.take 100)
      rw [h] at hlt
      simp only at hlt
      have hlen : k + 1 ≤ (l.take 100).length := by omega
      rw [h]
      have HE := Lib.hid (enc_val _ _ _ h0 (by omega) h1 h2 h3 h5)
      have HT : Hid (Rd w S 1 A (k + 1) (((l.take 100).take (k + 1)).map bv)) := by
        have := HR2.out.take (k := k + 1) (by have := HR2.out.1; simp only [List.length_map] at this; omega)
        rwa [Nat.mul_one, ← List.map_take] at this
      have hkm : k + 1 ≤ n := by have h6 := HR2.out.1; simp only [List.length_map, Nat.mul_one] at h6; omega
      clear h h0 h2 h3 h4 h5 hlen
      generalize val ((l.take 100).take (k + 1)) = x at hlt HE ⊢
      generalize (l.take 100).take (k + 1) = L at HE HT
      go_wp2_with fail
      refine (Append_any none 0 0 [] x _ (fun _ => False) Rd.none_ (by omega) hlt).mono ?_
      rintro e w2 ⟨v2, rfl, hg2⟩
      obtain ⟨A2, n2, c2, rfl, H2, _⟩ := own_slice hg2.own
      have HO : Hid (Rd w2 (Rows1 (.slice A2 n2 c2)) 1 A2 n2 (L.map bv)) := by
        have := OwnB.rd hg2.own H2.out
        rwa [List.nil_append, HE.out] at this
      have HT2 : Hid (Rd w2 S 1 A (k + 1) (L.map bv)) := HT.out.fr0 hg2.fr0
      have HF : Hid (Fr Nothing w w2) := hg2.fr0
      clear hg2
      go_wp2
      have hcv1 : ∀ x : In (Later w2), (convert 22 9 (.slice A2 n2 c2)).run Try.prog x.w = .ok (.string ⟨L.toArray⟩) x.w := fun x => run_strT _ _ A2 n2 c2 _ (HO.out.fr0 x.h)
      have hcv2 : ∀ x : In (Later w2), (convert 22 9 (.slice A (k + 1) c)).run Try.prog x.w = .ok (.string ⟨L.toArray⟩) x.w := fun x => run_strT _ _ A (k + 1) c _ (HT2.out.fr0 x.h)
      refine wp_region_in (Later w2) ((Fr.refl _ _).drew) (by kernel_rfl) (by kernel_rfl) ?_
      repeat (go_big_quiet_step ((go_at_call 13; exact In.later (known_later _))))
      refine wpQuiet_nil ?_
      rintro _ ⟨x, rfl⟩
      go_wp2
      go_ret
      exact ⟨rfl, HF.out.trans x.h⟩
end Go.Proofs.Ytfopfhdijdefiaa
