/- Contract of replevinlaw01.known: it returns true and turns no block that was there. -/
import Derived.Test.YtfopfhdijdefiaaCodecC
namespace Go.Proofs.Ytfopfhdijdefiaa
open Go.RowKit

theorem ba_push (l : List UInt8) : ∀ (s : ByteArray), (l.map (fun b : UInt8 => (b.toNat : Int))).foldl (fun r n => r.push (UInt8.ofNat n.toNat)) s = ⟨(s.data.toList ++ l).toArray⟩ := by
  induction l with
  | nil => intro s; simp
  | cons b l ih =>
    intro s
    simp only [List.map_cons, List.foldl_cons]
    rw [ih]
    congr 1
    have e : UInt8.ofNat (Int.toNat (b.toNat : Int)) = b := by simp
    rw [e]
    simp [ByteArray.push]

/-- string(b) of a slice that reads as l. -/
theorem run_str {P : Program} (w : World) (src dst e : TypeId) (hs : P.underlying src = some (.slice e)) (he : P.underlying e = some (.int .u8)) (hd : P.underlying dst = some .string)
    (S : Nat → Prop) (A : Option Addr) (n c : Nat) (l : List UInt8) (hr : Rd w S 1 A n (l.map bv)) : (convert src dst (.slice A n c)).run P w = .ok (.string ⟨l.toArray⟩) w := by
  rw [run_convert_bytes_string w src dst e A n c hs he hd]
  have hl : l.length = n := by simpa using hr.1
  rcases A with _ | ad
  · have : l = [] := by
      rcases Nat.eq_zero_or_pos n with h | h
      · exact List.eq_nil_of_length_eq_zero (hl.trans h)
      · obtain ⟨ad, e, _⟩ := hr.2 h
        cases e
    subst this
    rfl
  · have hc : ∀ j v, (l.map bv)[j]? = some v → w.cell? (ad.add j) = some v := by
      intro j v hv
      rcases Nat.eq_zero_or_pos n with h | h
      · have : l = [] := List.eq_nil_of_length_eq_zero (hl.trans h)
        subst this
        simp at hv
      · obtain ⟨ad', e, _, h'⟩ := hr.2 h
        injection e with e
        subst e
        exact h' j v hv
    have h1 := run_loadCells_list (P := P) w ad (l.map bv) hc
    rw [List.length_map, hl] at h1
    rw [run_bytesToString w ad n c (l.map (fun b : UInt8 => (b.toNat : Int))) (by rw [h1]; simp [bv, Function.comp_def])]
    rw [ba_push]
    rfl

abbrev run_strT (w : World) (S : Nat → Prop) (A : Option Addr) (n c : Nat) (l : List UInt8) (hr : Rd w S 1 A n (l.map bv)) : (convert 22 9 (.slice A n c)).run Try.prog w = .ok (.string ⟨l.toArray⟩) w :=
  run_str w 22 9 5 Try.underlying22 Try.underlying5 Try.underlying9 S A n c l hr

def TrueNew (w : World) (e : Ending) (w' : World) : Prop := e = .returned (.bool true) ∧ Fr Nothing w w'

theorem rd_128_0 (w : World) : Rd (w.alloc (.cells #[.int .u8 128, .int .u8 0] 5)) (fun k => k = w.heap.size) 1 (some ⟨w.heap.size, 0, none⟩) 2 (([128, 0] : List UInt8).map bv) := rd_new w #[.int .u8 128, .int .u8 0] 5 1 2 rfl
theorem rd_128 (w : World) : Rd (w.alloc (.cells #[.int .u8 128] 5)) (fun k => k = w.heap.size) 1 (some ⟨w.heap.size, 0, none⟩) 1 (([128] : List UInt8).map bv) := rd_new w #[.int .u8 128] 5 1 1 rfl

theorem rd_128' (w : World) (o : Obj) : Rd ((w.alloc o).alloc (.cells #[.int .u8 128] 5)) (fun k => k = w.heap.size + 1) 1 (some ⟨w.heap.size + 1, 0, none⟩) 1 (([128] : List UInt8).map bv) := by
  have h := rd_128 (w.alloc o)
  have e : (w.alloc o).heap.size = w.heap.size + 1 := by simp
  rw [e] at h
  exact h

set_option maxHeartbeats 1000000 in
theorem known_any (w : World) : Calls Try.prog 13 #[] w (TrueNew w) := by
  go_enter Try.func13, Try.ntmps13
  go_wp2_with fail
  refine (NewWriter_any _).mono ?_
  rintro e w1 ⟨rfl, h1, hf1⟩
  have HW := Lib.hid h1
  have HF := Lib.hid hf1
  clear h1 hf1
  go_wp2_with fail
  refine (wNumber_any _ _ _ _ _ _ HW.out (by simp) (by omega)).mono ?_
  rintro e w2 ⟨rfl, v2, h2⟩
  rw [show wNumber ([], 0) 300 = ([172, 2], 0) by decide +kernel] at h2
  have HW2 := Lib.hid h2
  clear h2
  go_wp2_with fail
  refine (wSigned_any _ _ _ _ _ _ HW2.out.wr (by simp) (by omega) (by omega)).mono ?_
  rintro e w3 ⟨rfl, v3, h3⟩
  rw [show wSigned (([172, 2], (0 : Int)).fst, ([172, 2], 0).snd) (-1) = ([172, 2, 1], 0) by decide +kernel] at h3
  have HW3 := Lib.hid (HW2.out.trans h3)
  clear h3
  go_wp2_with fail
  refine (wText_any _ _ _ _ _ _ HW3.out.wr (by simp) (by decide)).mono ?_
  rintro e w4 ⟨rfl, v4, h4⟩
  rw [show wText (([172, 2, 1], (0 : Int)).fst, ([172, 2, 1], 0).snd) (strL { data := #[97, 98] }) = ([172, 2, 1, 2, 97, 98], 0) by decide +kernel] at h4
  have HW4 := Lib.hid (HW3.out.trans h4)
  clear h4
  go_wp2_with fail
  refine (wBytes_any _ _ _ _ _ HW4.out.wr (by simp)).mono ?_
  rintro e w5 h5
  obtain ⟨v5, rfl, hg5⟩ := h5.2 rfl
  obtain ⟨A5, n5, c5, rfl, H5, _⟩ := own_slice hg5.own
  have HF2 : Hid (Fr Nothing w w5) := HF.out.then_ (HW4.out.fr.then_ hg5.fr0.weak (fun i _ h => h)) (fun i hi h => by
    rcases h with h | h
    · omega
    · simp [Value.ownBlock] at h)
  have HR : Hid (Rd w5 _ 1 A5 n5 (([172, 2, 1, 2, 97, 98] : List UInt8).map bv)) := OwnB.rd hg5.own H5.out
  clear h5 hg5
  go_wp2_with fail
  refine (Parse_any _ _ _ [128, 0] _ _ (rd_128_0 w5) (by omega)).mono ?_
  rintro e w6 ⟨rfl, rfl⟩
  rw [show pn [128, 0] 9 = (0, 0, 3) by decide +kernel]
  go_wp2_with fail
  refine (Parse_any _ _ _ [128] _ _ (rd_128' w5 _) (by omega)).mono ?_
  rintro e w7 ⟨rfl, rfl⟩
  rw [show pn [128] 9 = (0, 0, 28) by decide +kernel]
  have hcv := run_strT _ _ A5 n5 c5 _ ((HR.out.fr0 ((Fr.refl _ _).alloc (.cells #[.int .u8 128, .int .u8 0] 5))).fr0 ((Fr.refl _ _).alloc (.cells #[.int .u8 128] 5)))
  go_wp2
  go_ret
  exact ⟨rfl, (HF2.out.alloc _).alloc _⟩
end Go.Proofs.Ytfopfhdijdefiaa
