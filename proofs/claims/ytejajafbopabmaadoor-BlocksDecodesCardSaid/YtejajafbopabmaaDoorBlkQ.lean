/- Plain laws of blocks: what Commit, Abort and Take do to the lists. -/
import Derived.Test.YtejajafbopabmaaDoorBlkX
namespace Go.Proofs.YtejajafbopabmaaDoor
open Go.RowKit

theorem pickF_congr {l l' : List UInt8} {x y x' y' : UInt8} {n : Nat} (h : ∀ k, k < n → hit l x y k = hit l' x' y' k) : ∀ m, m ≤ n → pickF l x y n m = pickF l' x' y' n m
  | 0, _ => rfl
  | m + 1, hm => by
    have ih := pickF_congr h m (by omega)
    have e := h m (by omega)
    cases hh : hit l x y m with
    | true => rw [pickF_hit (by omega) hh, pickF_hit (by omega) (e ▸ hh), ih]
    | false => rw [pickF_miss hh, pickF_miss (e ▸ hh), ih]
theorem blkK_congr {f : Nat} {l l' : List UInt8} {x y x' y' : UInt8} {n : Nat} (h : ∀ k, k < n → hit l x y k = hit l' x' y' k) : blkK f l x y n n = blkK f l' x' y' n n := by
  unfold blkK
  rw [pickF_congr h n (Nat.le_refl _)]
theorem byteAt_map {l : List UInt8} {t : UInt8 → UInt8} {k : Nat} (h : k < l.length) : byteAt (l.map t) k = (t (UInt8.ofNat (byteAt l k))).toNat := by
  simp [byteAt, h]
theorem cases4 {x : Nat} (h : x < 4) : x = 0 ∨ x = 1 ∨ x = 2 ∨ x = 3 := by omega
theorem hit_tab {l : List UInt8} (h4 : ok4 l) {t : UInt8 → UInt8} {x y x' y' : UInt8} (ht : ∀ z : Nat, z = 0 ∨ z = 1 ∨ z = 2 ∨ z = 3 → (((t (UInt8.ofNat z)).toNat == x.toNat) || ((t (UInt8.ofNat z)).toNat == y.toNat)) = ((z == x'.toNat) || (z == y'.toNat))) {k : Nat} (hk : k < l.length) : hit (l.map t) x y k = hit l x' y' k := by
  unfold hit
  rw [byteAt_map hk]
  exact ht _ (cases4 (byteAt_lt h4 k))
theorem tabA_12 {l : List UInt8} (h4 : ok4 l) {k : Nat} (hk : k < l.length) : hit (l.map tabA) 1 2 k = hit l 1 3 k := hit_tab h4 (by rintro z (rfl | rfl | rfl | rfl) <;> rfl) hk
theorem tabA_13 {l : List UInt8} (h4 : ok4 l) {k : Nat} (hk : k < l.length) : hit (l.map tabA) 1 3 k = hit l 1 3 k := hit_tab h4 (by rintro z (rfl | rfl | rfl | rfl) <;> rfl) hk
theorem tabC_12 {l : List UInt8} (h4 : ok4 l) {k : Nat} (hk : k < l.length) : hit (l.map tabC) 1 2 k = hit l 1 2 k := hit_tab h4 (by rintro z (rfl | rfl | rfl | rfl) <;> rfl) hk
theorem tabC_13 {l : List UInt8} (h4 : ok4 l) {k : Nat} (hk : k < l.length) : hit (l.map tabC) 1 3 k = hit l 1 2 k := hit_tab h4 (by rintro z (rfl | rfl | rfl | rfl) <;> rfl) hk
theorem num_tab {l : List UInt8} (h4 : ok4 l) {t : UInt8 → UInt8} {s : UInt8} (ht : ∀ z : UInt8, z.toNat < 4 → t z ≠ s) (z : Int) (hz : z = (s.toNat : Int)) : numL (l.map t) z = 0 := by
  unfold numL
  subst hz
  split
  · rw [Int.toNat_natCast, UInt8.ofNat_toNat, List.count_eq_zero]
    intro hm
    obtain ⟨a, ha, e⟩ := List.mem_map.1 hm
    exact ht a (h4 a ha) e
  · rfl
theorem u8_cases {z : UInt8} (h : z.toNat < 4) : z = 0 ∨ z = 1 ∨ z = 2 ∨ z = 3 := by
  rcases cases4 h with e | e | e | e
  · exact .inl (UInt8.toNat.inj e)
  · exact .inr (.inl (UInt8.toNat.inj e))
  · exact .inr (.inr (.inl (UInt8.toNat.inj e)))
  · exact .inr (.inr (.inr (UInt8.toNat.inj e)))
theorem numA2 {l : List UInt8} (h4 : ok4 l) : numL (l.map tabA) 2 = 0 := num_tab h4 (s := 2) (fun z hz => by rcases u8_cases hz with rfl | rfl | rfl | rfl <;> decide) 2 rfl
theorem numA3 {l : List UInt8} (h4 : ok4 l) : numL (l.map tabA) 3 = 0 := num_tab h4 (s := 3) (fun z hz => by rcases u8_cases hz with rfl | rfl | rfl | rfl <;> decide) 3 rfl
theorem numC2 {l : List UInt8} (h4 : ok4 l) : numL (l.map tabC) 2 = 0 := num_tab h4 (s := 2) (fun z hz => by rcases u8_cases hz with rfl | rfl | rfl | rfl <;> decide) 2 rfl
theorem numC3 {l : List UInt8} (h4 : ok4 l) : numL (l.map tabC) 3 = 0 := num_tab h4 (s := 3) (fun z hz => by rcases u8_cases hz with rfl | rfl | rfl | rfl <;> decide) 3 rfl
end Go.Proofs.YtejajafbopabmaaDoor
