/- State: StateLimits (written by genScm.py). -/
import Derived.Test.YtpnchdgplpdefaaDoorLmScl
import Derived.Test.YtpnchdgplpdefaaDoorLmSbZ
import Derived.Test.YtpnchdgplpdefaaDoorLmSaL
namespace Go.Proofs.YtpnchdgplpdefaaDoor
open Go.RowKit Go.Shelf
theorem clock_ok : okNm clockN = true := by kernel_rfl
theorem KInv0 : GoodL [] := ⟨List.Pairwise.nil, (fun _ h => by cases h), by simp, by simp [bytesL], (fun _ h => by cases h)⟩
theorem nameL_clock : (nameL clockN).length ≤ 50 := nameL_length clockN
structure OneE (n : Nat) (x : ByteArray) (L : List Ent) : Prop where
 ins : insL clockN x [] = L
 good : GoodL L
 small : SmallE L
 dec : decS (encS L) = (0, L)
 len : (encS L).length ≤ 70000
 bytes : bytesL L = n
theorem OneE.of {n : Nat} {x : ByteArray} (hx : x.size = n) (hn : n ≤ 65536) : OneE n x [(clockN, x)] := by
 have hs : SortL [(clockN, x)] := List.pairwise_singleton _ _
 have hok : ∀ y ∈ [(clockN, x)], okNm y.1 = true := fun y hy => by
  simp only [List.mem_singleton] at hy
  rw [hy]
  exact clock_ok
 have ho : ∀ y ∈ [(clockN, x)], y.1.owner.size = 0 ∧ y.1.text.size = 0 ∧ y.2.size = n := fun y hy => by
  simp only [List.mem_singleton] at hy
  rw [hy]
  exact ⟨rfl, rfl, hx⟩
 refine ⟨rfl, ⟨hs, fun y hy => by have := ho y hy; omega, by simp, by simp [bytesL, hx]; omega, hok⟩, ⟨hok, fun y hy => by have := ho y hy; omega, fun y hy => by have := ho y hy; omega, fun y hy => by have := ho y hy; omega, by simp⟩, decS_enc hs (by simp) hok (fun y hy => by have := ho y hy; omega) (fun y hy => by have := ho y hy; omega) (fun y hy => by have := ho y hy; omega), ?_, by simp [bytesL, hx]⟩
 have h1 := enc_length ([(clockN, x)] : List Ent).length
 have h2 := enc_length (nameL clockN).length
 have h3 := enc_length (strL x).length
 have h4 := strL_length x
 have h5 := nameL_clock
 simp only [encS, List.flatMap_cons, List.flatMap_nil, List.append_nil, entB, textB, List.length_append]
 omega
set_option maxRecDepth 100000 in
set_option maxHeartbeats 4000000 in
theorem StateLimits_any (k : Nat) (w : World) (hk : k < 256) (hU : UsaT w) : Calls Tryd.prog 10 #[.int .u8 (k : Int)] w (TrueNew w) := by
 obtain ⟨i0, hi, hz0, hz1, hz2⟩ := info_parts info_u8
 have HU := Lib.hid hU
 have CK : Hid (∀ w', Fr Nothing w w' → Calls Tryd.prog 12 #[] w' (Same' w' (.bool true))) := fun w' hf => known_any w' (HU.out.fr0 hf)
 clear hU
 obtain ⟨r, hr⟩ : ∃ r : Nat, k % 4 = r := ⟨_, rfl⟩
 have e1 : (k : Int) % 4 = (r : Int) := by omega
 have e2 : Int.tmod (k : Int) 4 = (r : Int) := by rw [Int.tmod_eq_emod_of_nonneg (by omega)]; exact e1
 obtain ⟨n, hn⟩ : ∃ n : Nat, n = 65535 + r := ⟨_, rfl⟩
 have e3 : (65535 : Int) + (r : Int) = (n : Int) := by omega
 have nb : n ≤ 65538 := by omega
 have r4 : r < 4 := by omega
 obtain ⟨xl, hxl⟩ : ∃ xl : List UInt8, xl = List.replicate n 0 := ⟨_, rfl⟩
 have HXL := Lib.hid hxl
 obtain ⟨x, hx⟩ : ∃ x : ByteArray, x = ⟨xl.toArray⟩ := ⟨_, rfl⟩
 have HX := Lib.hid hx
 have HXS : Hid (x.size = n) := by rw [Hid, hx, hxl]; simp [ByteArray.size]
 clear hx hxl hr hn
 go_enter Tryd.func10, Tryd.ntmps10
 go_wp2_with fail
 refine (CK.out _ (Fr.refl _ _)).mono ?_
 rintro e w1 ⟨rfl, f1⟩
 have F1 := Lib.hid f1
 clear f1 CK
 go_wp2_with (at_make; refine wpList_make_full _ rfl _ _ 67 rfl 0 5 i0 (.int .u8 0) 1 Tryd.underlying67 hi hz0 hz1 _ _ _ _ n rfl rfl rfl rfl ?c1 ?c2 (Nat.zero_le _) ?_)
 case c1 => rw [hz2]; omega
 case c2 => unfold maxLen; omega
 intro w3 hown hgr
 rw [toList_madeCells_one] at hown
 have hcv : (convert 67 9 (.slice (some ⟨w1.heap.size, 0, none⟩) n n)).run Tryd.prog w3 = .ok (.string x) w3 := by
  rw [HX.out]
  exact run_strT w3 _ _ _ n xl (show Rd w3 (Rows1 (.slice (some ⟨w1.heap.size, 0, none⟩) n n)) 1 _ n (xl.map bv) by rw [HXL.out, List.map_replicate]; exact Rd.of_own hown)
 have F3 : Hid (Fr Nothing w w3) := F1.out.trans ((Fr.grown hgr).mono (fun k _ hk => by cases hk))
 clear hown hgr F1 HXL HX
 go_wp2_with fail
 refine (New_any _).mono ?_
 rintro e w4 ⟨s0, rfl, hs4, f4⟩
 have SL4 : Hid (StL w4 s0 []) := ⟨.leaf, hs4, rfl⟩
 have F4 := Lib.hid (F3.out.trans f4)
 clear hs4 f4 F3 hcv
 go_wp2_with fail
 refine (OfClock_any w4).mono ?_
 rintro e w5 ⟨rfl, f5⟩
 have SL5 := Lib.hid (SL4.out.fr0 f5)
 have F5 := Lib.hid (F4.out.trans f5)
 clear f5 SL4 F4
 have CW : Hid (Calls Tryd.prog 31 #[.pointer (some ⟨s0, 0, none⟩), .agg clockC, .string x] w5 (Withed w5 [] clockN x)) := With_any [] clockN x s0 w5 SL5.out (HU.out.fr0 F5.out) KInv0 ⟨by decide, by decide⟩
 go_wp2_with fail
 refine CW.out.mono ?_
 rintro e w6 ⟨p, q, rfl, f6, hcase⟩
 have F6 := Lib.hid (F5.out.trans f6)
 have HCS := Lib.hid hcase
 clear hcase f6 CW SL5 F5
 by_cases hn : 65536 < n
 ·obtain ⟨rfl, rfl⟩ : q = 5 ∧ p = none := by
   rcases HCS.out with ⟨_, h, _⟩ | ⟨h, _⟩ | ⟨_, _, h1, h2⟩
   ·rw [HXS.out] at h; omega
   ·rw [clock_ok] at h; cases h
   ·exact ⟨h1, h2⟩
  have t1 : decide ((65536 : Int) < (x.size : Int)) = true := decide_eq_true (by rw [HXS.out]; omega)
  clear HCS
  go_wp2
  go_ret
  exact ⟨rfl, F6.out⟩
 obtain ⟨rfl, s1, rfl, hs6⟩ : q = 0 ∧ ∃ s1, p = some ⟨s1, 0, none⟩ ∧ StL w6 s1 (insL clockN x []) := by
  rcases HCS.out with ⟨_, _, h1, h2⟩ | ⟨h, _⟩ | ⟨_, h, _⟩
  ·exact ⟨h1, h2⟩
  ·rw [clock_ok] at h; cases h
  ·rw [HXS.out] at h; omega
 clear HCS
 have O := OneE.of HXS.out (by omega)
 have HL : Hid (StL w6 s1 [(clockN, x)]) := hs6
 obtain ⟨L, hL⟩ : ∃ L, [(clockN, x)] = L := ⟨_, rfl⟩
 rw [hL] at O HL
 have HO := Lib.hid O
 clear hs6 O hL
 have t1 : decide ((65536 : Int) < (x.size : Int)) = false := decide_eq_false (by rw [HXS.out]; omega)
 obtain ⟨xs, hxs⟩ : ∃ xs : Nat, x.size = xs := ⟨_, rfl⟩
 have CB : Hid (∀ w', Fr Nothing w6 w' → Calls Tryd.prog 34 #[.pointer (some ⟨s1, 0, none⟩)] w' (SameW w' (.int .i64 (x.size : Nat)))) := fun w' f => by
  obtain ⟨t, ht, e⟩ := HL.out.fr0 f
  have h := Bytes_any w' s1 t ht
  rw [Tr.bytes_toL, e, HO.out.bytes, ← HXS.out] at h
  exact h
 clear hxs
 go_wp2_with fail
 refine (CB.out _ (Fr.refl _ _)).mono ?_
 rintro e w7 ⟨rfl, rfl⟩
 clear CB
 have CE : Hid (Calls Tryd.prog 29 #[.pointer (some ⟨s1, 0, none⟩)] w6 (Encoded w6 (encS L))) := SEnc_any L s1 w6 HL.out (HU.out.fr0 F6.out) HO.out.small
 go_wp2_with fail
 refine CE.out.mono ?_
 rintro e w8 ⟨v, rfl, hg⟩
 obtain ⟨A8, n8, c8, rfl, H8, _⟩ := own_slice hg.own
 have F8 := Lib.hid (F6.out.trans hg.fr0)
 have HL8 := Lib.hid (HL.out.fr0 hg.fr0)
 have CD : Hid (Calls Tryd.prog 38 #[.slice A8 n8 c8] w8 (SDecoded w8 (0, L))) := by
  have h := SDec_any A8 n8 c8 (encS L) _ w8 (OwnB.rd hg.own H8.out) HO.out.len (HU.out.fr0 F8.out)
  rw [HO.out.dec] at h
  exact h
 clear hg H8 CE HL F6
 go_wp2_with fail
 refine CD.out.mono ?_
 rintro e w9 ⟨p, rfl, f9, hcase⟩
 obtain ⟨s2, rfl, hs9⟩ : ∃ s2, p = some ⟨s2, 0, none⟩ ∧ StL w9 s2 L := by
  rcases hcase with ⟨_, h⟩ | ⟨h, _⟩
  ·exact h
  ·exact absurd rfl h
 have F9 := Lib.hid (F8.out.trans f9)
 have CQ : Hid (Calls Tryd.prog 26 #[.pointer (some ⟨s2, 0, none⟩), .pointer (some ⟨s1, 0, none⟩)] w9 (Same' w9 (.bool true))) := Equal_any L L s2 s1 w9 hs9 (HL8.out.fr0 f9) HO.out.good HO.out.good true (by simp)
 clear hcase f9 hs9 HL8 F8 CD
 go_wp2_with fail
 refine CQ.out.mono ?_
 rintro e w10 ⟨rfl, f10⟩
 have FA := Lib.hid (F9.out.trans f10)
 clear f10 F9 CQ
 go_wp2
 go_ret
 exact ⟨rfl, FA.out⟩
theorem StateLimits_int (a : Int) (w : World) (ha : 0 ≤ a ∧ a ≤ 255) (hU : UsaT w) : Calls Tryd.prog 10 #[.int .u8 a] w (TrueNew w) := by
 obtain ⟨k, rfl⟩ : ∃ k : Nat, a = (k : Int) := ⟨a.toNat, by omega⟩
 exact StateLimits_any k w (by omega) hU
end Go.Proofs.YtpnchdgplpdefaaDoor
