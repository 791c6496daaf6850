/- State: the reference's Decode of names, plain: it answers as object.Decode. -/
import Derived.Test.YtpnchdgplpdefaaDoorDeSci
import Derived.Test.YtpnchdgplpdefaaDoorDeScj
namespace Go.Proofs.YtpnchdgplpdefaaDoor
open Go.RowKit Go.Shelf
theorem ba_of (s : ByteArray) (l : List UInt8) (h : strL s = l) : s = ⟨l.toArray⟩ := by rw [← h]; simp [strL]
theorem strL_mk (l : List UInt8) : strL ⟨l.toArray⟩ = l := by simp [strL]
theorem strL_extract (s : ByteArray) (a b : Nat) : strL (s.extract a b) = ((strL s).drop a).take (b - a) := by
 simp [strL, List.extract_eq_take_drop]
def takeL (l : List UInt8) : Int × List UInt8 := if (pn l 9).2.2 = 0 then (((pn l 9).1 : Nat), l.drop (pn l 9).2.1) else (-1, [])
def pieceL (l : List UInt8) : List UInt8 × List UInt8 :=
 if (takeL l).1 < 0 ∨ ((takeL l).2.length : Int) < (takeL l).1 then ([], []) else ((takeL l).2.take (takeL l).1.toNat, (takeL l).2.drop (takeL l).1.toNat)
theorem takeL_range (l : List UInt8) : -1 ≤ (takeL l).1 ∧ (takeL l).1 ≤ 9223372036854775807 ∧ (takeL l).2.length ≤ l.length := by
 have := pn_lt9 l
 unfold takeL
 split
 ·refine ⟨by simp only; omega, by simp only; omega, ?_⟩
  simp only [List.length_drop]
  omega
 ·simp
theorem pieceL_len (l : List UInt8) : (pieceL l).1.length ≤ l.length ∧ (pieceL l).2.length ≤ l.length := by
 have := takeL_range l
 unfold pieceL
 split
 ·simp
 ·simp only [List.length_take, List.length_drop]
  omega
theorem strL_tail (s : ByteArray) (k : Nat) : s.extract k s.size = ⟨((strL s).drop k).toArray⟩ := by
 refine ba_of _ _ ?_
 rw [strL_extract, List.take_of_length_le (by rw [List.length_drop, strL_length]; omega)]
set_option maxRecDepth 100000 in
set_option maxHeartbeats 1000000 in
theorem take_any (s : ByteArray) (w : World) (hs : s.size ≤ 1099511627776) :
  Calls Tryd.prog 96 #[.string s] w (Same' w (.tuple #[.int .i64 (takeL (strL s)).1, .string ⟨(takeL (strL s)).2.toArray⟩])) := by
 obtain ⟨c, w1, hcv, hf1, hR⟩ := conv_bytes w s
 have HR := Lib.hid hR
 have HF := Lib.hid hf1
 generalize w.heap.size = g at *
 have hz := pn_size (strL s) 9 (by omega)
 rw [strL_length] at hz
 have hlt := pn_lt9 (strL s)
 have ht := strL_tail s (pn (strL s) 9).2.1
 unfold takeL
 clear hR hf1
 by_cases h : (pn (strL s) 9).2.2 = 0
 ·rw [if_pos h]
  have t1 : ((((pn (strL s) 9).2.2 : Nat) : Int) != 0) = false := by rw [bne_eq_false_iff_eq]; omega
  simp only
  rw [← ht]
  have HP := Lib.hid (fun w => refParse_any (some ⟨g, 0, none⟩) s.size c (strL s) w (fun k => k = g))
  generalize (pn (strL s) 9).1 = n at *
  generalize (pn (strL s) 9).2.1 = k at *
  generalize (pn (strL s) 9).2.2 = e at *
  have k1 : (k : Int) ≤ (s.size : Int) := by omega
  have k2 : k ≤ s.size := by omega
  clear ht h hz
  go_enter Tryd.func96, Tryd.ntmps96
  go_wp2_with fail
  refine (HP.out _ HR.out hs).mono ?_
  rintro e' w2 ⟨rfl, rfl⟩
  clear HP HR hcv
  go_wp2
  go_quiet (fail)
  go_wp2
  go_ret2
  exact ⟨rfl, HF.out.drewN _⟩
 ·rw [if_neg h]
  have t1 : ((((pn (strL s) 9).2.2 : Nat) : Int) != 0) = true := by rw [bne_iff_ne]; omega
  have HP := Lib.hid (fun w => refParse_any (some ⟨g, 0, none⟩) s.size c (strL s) w (fun k => k = g))
  generalize (pn (strL s) 9).1 = n at *
  generalize (pn (strL s) 9).2.1 = k at *
  generalize (pn (strL s) 9).2.2 = e at *
  clear ht h hz
  go_enter Tryd.func96, Tryd.ntmps96
  go_wp2_with fail
  refine (HP.out _ HR.out hs).mono ?_
  rintro e' w2 ⟨rfl, rfl⟩
  clear HP HR hcv
  go_wp2
  go_ret2
  exact ⟨rfl, HF.out⟩
set_option maxRecDepth 100000 in
set_option maxHeartbeats 1000000 in
theorem piece_any (s : ByteArray) (w : World) (hs : s.size ≤ 1099511627776) :
  Calls Tryd.prog 98 #[.string s] w (Same' w (.tuple #[.string ⟨(pieceL (strL s)).1.toArray⟩, .string ⟨(pieceL (strL s)).2.toArray⟩])) := by
 have CT := Lib.hid (fun w => take_any s w hs)
 have hr := takeL_range (strL s)
 rw [strL_length] at hr
 obtain ⟨R, hR⟩ : ∃ R : ByteArray, R = ⟨(takeL (strL s)).2.toArray⟩ := ⟨_, rfl⟩
 have hRL : strL R = (takeL (strL s)).2 := by rw [hR, strL_mk]
 rw [← hR] at CT
 unfold pieceL
 rw [← hRL] at *
 rw [strL_length] at *
 generalize (takeL (strL s)).1 = n at *
 clear hR hRL
 by_cases h1 : n < 0
 ·rw [if_pos (.inl h1)]
  have t1 : decide (n < 0) = true := decide_eq_true h1
  clear h1
  go_enter Tryd.func98, Tryd.ntmps98
  go_wp2_with fail
  refine (CT.out _).mono ?_
  rintro e' w2 ⟨rfl, f2⟩
  have F2 := Lib.hid f2
  clear f2 CT
  go_wp2
  go_ret2
  exact ⟨rfl, F2.out⟩
 have t1 : decide (n < 0) = false := decide_eq_false h1
 by_cases h2 : (R.size : Int) < n
 ·rw [if_pos (.inr h2)]
  have t2 : decide ((R.size : Int) < n) = true := decide_eq_true h2
  clear h1 h2
  go_enter Tryd.func98, Tryd.ntmps98
  go_wp2_with fail
  refine (CT.out _).mono ?_
  rintro e' w2 ⟨rfl, f2⟩
  have F2 := Lib.hid f2
  clear f2 CT
  go_wp2
  go_ret2
  exact ⟨rfl, F2.out⟩
 rw [if_neg (by omega)]
 obtain ⟨k, rfl⟩ : ∃ k : Nat, n = k := ⟨n.toNat, by omega⟩
 have t2 : decide ((R.size : Int) < (k : Int)) = false := decide_eq_false h2
 have k1 : (k : Int) ≤ (R.size : Int) := by omega
 have k2 : k ≤ R.size := by omega
 have x1 : (⟨((strL R).take k).toArray⟩ : ByteArray) = R.extract 0 k := (ba_of _ _ (by rw [strL_extract]; simp)).symm
 simp only [Int.toNat_natCast]
 rw [x1, ← strL_tail]
 clear x1 h1 h2
 go_enter Tryd.func98, Tryd.ntmps98
 go_wp2_with fail
 refine (CT.out _).mono ?_
 rintro e' w2 ⟨rfl, f2⟩
 have F2 := Lib.hid f2
 clear f2 CT
 go_wp2
 go_quiet (fail)
 go_wp2
 go_ret2
 exact ⟨rfl, F2.out.drewN _⟩
end Go.Proofs.YtpnchdgplpdefaaDoor
namespace Go.Proofs.YtpnchdgplpdefaaDoor
open Go.RowKit Go.Shelf
def kindU (k : Int) : Usa := if 1 ≤ k ∧ k ≤ 20 then (usaL[k.toNat]?).getD ⟨ByteArray.empty, false, false, false, false, 0⟩ else ⟨ByteArray.empty, false, false, false, false, 0⟩
def gst1 (u : Usa) (l : List UInt8) : List UInt8 × List UInt8 := if u.owner then pieceL l else ([], l)
def gst2 (u : Usa) (l : List UInt8) : Int × List UInt8 := if u.number then takeL l else (0, l)
def gst3 (u : Usa) (l : List UInt8) : Int × List UInt8 := if u.index then takeL l else (0, l)
def gst4 (u : Usa) (l : List UInt8) : List UInt8 × List UInt8 := if u.text then pieceL l else ([], l)
def guessU (u : Usa) (k : Int) (l : List UInt8) : NameV × List UInt8 :=
 (⟨k, ⟨(gst1 u l).1.toArray⟩, (gst2 u (gst1 u l).2).1, (gst3 u (gst2 u (gst1 u l).2).2).1, ⟨(gst4 u (gst3 u (gst2 u (gst1 u l).2).2).2).1.toArray⟩⟩, (gst4 u (gst3 u (gst2 u (gst1 u l).2).2).2).2)
def guessN (l : List UInt8) : NameV × List UInt8 := guessU (kindU (takeL l).1) (takeL l).1 (takeL l).2
def rdecN (l : List UInt8) : NameV × Int := if okNm (guessN l).1 = true ∧ nameL (guessN l).1 = l ∧ (guessN l).2 = [] then ((guessN l).1, 0) else (nmZ, 3)
theorem takeL_enc (u : Nat) (r : List UInt8) (h : u < 9223372036854775808) : takeL (enc u ++ r) = ((u : Int), r) := by
 unfold takeL
 rw [pn_enc9 u r h]
 simp
theorem pieceL_enc (s r : List UInt8) (h : s.length < 9223372036854775808) : pieceL (textB s ++ r) = (s, r) := by
 unfold pieceL textB
 rw [List.append_assoc, takeL_enc _ _ h]
 simp only
 rw [if_neg (by simp only [List.length_append]; omega), Int.toNat_natCast, List.take_left, List.drop_left]
theorem guessN_enc {m : NameV} (ho : okNm m = true) (hs : m.owner.size ≤ 16777216) : guessN (nameL m) = (m, []) := by
 obtain ⟨hk, u, hu, hus⟩ := okNm_us ho
 have hp := okUs_parts hus
 have hm := most_le hu
 have ht := @okUs_text u m hus
 have hku : kindU m.kind = u := by
  unfold kindU
  rw [if_pos hk, hu]
  rfl
 rw [nameL_of hu]
 obtain ⟨k, o, n, i, t⟩ := m
 obtain ⟨wd, bo, bn, bi, bt, mo⟩ := u
 obtain ⟨kk, rfl⟩ : ∃ q : Nat, k = (q : Int) := ⟨k.toNat, by simp only at hk; omega⟩
 simp only at hk hs hm ht hu hku
 simp only [nameU]
 rw [Int.toNat_natCast] at hu ⊢
 unfold guessN
 rw [takeL_enc kk _ (by omega)]
 simp only
 rw [hku]
 obtain ⟨R4, hR4⟩ : ∃ R, (if bt = true then textB (strL t) else []) = R := ⟨_, rfl⟩
 obtain ⟨R3, hR3⟩ : ∃ R, (if bi = true then enc i.toNat else []) ++ R4 = R := ⟨_, rfl⟩
 obtain ⟨R2, hR2⟩ : ∃ R, (if bn = true then enc n.toNat else []) ++ R3 = R := ⟨_, rfl⟩
 obtain ⟨R1, hR1⟩ : ∃ R, (if bo = true then textB (strL o) else []) ++ R2 = R := ⟨_, rfl⟩
 rw [hR4, hR3, hR2, hR1]
 have d1 : gst1 ⟨wd, bo, bn, bi, bt, mo⟩ R1 = (strL o, R2) := by
  rw [← hR1]
  unfold gst1
  cases bo
  ·have e := hp.o0 rfl
   simp only at e
   rw [e]; rfl
  ·exact pieceL_enc (strL o) R2 (by rw [strL_length]; omega)
 have d2 : gst2 ⟨wd, bo, bn, bi, bt, mo⟩ R2 = (n, R3) := by
  rw [← hR2]
  unfold gst2
  cases bn
  ·have e := hp.n0 rfl
   simp only at e
   rw [e]; rfl
  ·have e := hp.n1 rfl
   simp only at e
   have h := takeL_enc n.toNat R3 (by omega)
   rw [Int.toNat_of_nonneg e.1] at h
   exact h
 have d3 : gst3 ⟨wd, bo, bn, bi, bt, mo⟩ R3 = (i, R4) := by
  rw [← hR3]
  unfold gst3
  cases bi
  ·have e := hp.i0 rfl
   simp only at e
   rw [e]; rfl
  ·have e := hp.i1 rfl
   simp only at e
   have h := takeL_enc i.toNat R4 (by omega)
   rw [Int.toNat_of_nonneg e.1] at h
   exact h
 have d4 : gst4 ⟨wd, bo, bn, bi, bt, mo⟩ R4 = (strL t, []) := by
  rw [← hR4]
  unfold gst4
  cases bt
  ·have e := hp.t0 rfl
   simp only at e
   rw [e]; rfl
  ·have e := ht rfl
   have h := pieceL_enc (strL t) [] (by rw [strL_length]; omega)
   rw [List.append_nil] at h
   exact h
 rw [guessU, d1]
 simp only [d2, d3, d4]
 rfl
theorem decN_bad {l : List UInt8} (h : (decN l).2 ≠ 0) : decN l = (nmZ, 3) := by
 obtain ⟨u, hu⟩ := dst0_row l
 rw [decN_of hu] at h ⊢
 split at h
 ·exact absurd rfl h
 next hc => rw [if_neg hc]; rfl
theorem rdecN_eq (l : List UInt8) (hl : l.length ≤ 16777216) : rdecN l = decN l := by
 unfold rdecN
 by_cases h : (decN l).2 = 0
 ·obtain ⟨h1, h2⟩ := decN_inv h
  have h3 := (decN_small l).1
  have hg := guessN_enc h1 (by omega)
  rw [h2] at hg
  rw [hg, if_pos ⟨h1, h2, rfl⟩, ← h]
 ·rw [decN_bad h]
  by_cases hc : okNm (guessN l).1 = true ∧ nameL (guessN l).1 = l ∧ (guessN l).2 = []
  ·exfalso
   apply h
   obtain ⟨h1, h2, _⟩ := hc
   have hsz : (guessN l).1.owner.size ≤ l.length := by
    have a := takeL_range l
    have b := pieceL_len (takeL l).2
    show (gst1 (kindU (takeL l).1) (takeL l).2).1.toArray.size ≤ l.length
    rw [List.size_toArray]
    unfold gst1
    split
    ·omega
    ·simp
   rw [← h2, decN_enc h1 (by omega)]
  ·rw [if_neg hc]
end Go.Proofs.YtpnchdgplpdefaaDoor
