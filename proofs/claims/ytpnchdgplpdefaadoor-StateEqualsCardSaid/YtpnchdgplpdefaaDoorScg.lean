/- StateEquals: the walk (written by genScf.py). -/
import Derived.Test.YtpnchdgplpdefaaDoorScf
import Derived.Test.YtpnchdgplpdefaaDoorScd
import Derived.Test.YtpnchdgplpdefaaDoorSbZ
import Derived.Test.YtpnchdgplpdefaaDoorSbN
import Derived.Test.YtpnchdgplpdefaaDoorSaL
namespace Go.Proofs.YtpnchdgplpdefaaDoor
open Go.RowKit Go.Shelf

set_option maxRecDepth 100000 in
theorem Equal_nilR (s : Nat) (w : World) : Calls Tryd.prog 26 #[.pointer (some ⟨s, 0, none⟩), .pointer none] w (Same' w (.bool false)) := by
  go_enter Tryd.func26, Tryd.ntmps26
  go_wp2
  go_ret
  exact ⟨rfl, Fr.refl _ _⟩
theorem GoodK.small {k : Nat} {L : List Ent} (h : GoodK k L) (hk : k ≤ 60000) : SmallE L := ⟨h.ok, fun x hx => by have := h.owner x hx; omega, fun x hx => by have := h.text x hx; omega, fun x hx => by have := h.value x hx; omega, by have := h.len; omega⟩
theorem GoodK.goodE {k : Nat} {L : List Ent} (h : GoodK k L) : GoodE L := ⟨h.ok, fun x hx => ⟨by have := h.owner x hx; omega, by have := h.text x hx; omega⟩, fun x hx => by have := h.value x hx; omega⟩
theorem enc_eq {k : Nat} {L1 L2 : List Ent} (h1 : GoodK k L1) (h2 : GoodK k L2) (hk : k ≤ 60000) {E : Bool} (hE : E = true ↔ L1 = L2) : ((⟨(encS L1).toArray⟩ : ByteArray).toList == (⟨(encS L2).toArray⟩ : ByteArray).toList) = E := by
  rw [beqL]
  cases E
  · refine Bool.eq_false_iff.2 (fun h => Bool.false_ne_true (hE.2 ?_))
    have e := (beqB _ _).1 h
    have e2 : (encS L1).toArray = (encS L2).toArray := congrArg ByteArray.data e
    exact encS_inj h1.goodE h2.goodE (by have := h1.len; omega) (by have := h2.len; omega) (by simpa using e2)
  · rw [hE.1 rfl]
    exact (beqB _ _).2 rfl
/-- A slice of bytes of its own. -/
def BytesV (l : List UInt8) (v : Value) (w : World) : Prop := ∃ A n c, v = .slice A n c ∧ OwnB w (.slice A n c) l ∧ n = l.length
theorem BytesV.fr0 {l : List UInt8} {v : Value} {w w' : World} (h : BytesV l v w) (hf : Fr Nothing w w') : BytesV l v w' := by
  obtain ⟨A, n, c, e, ho, hn⟩ := h
  exact ⟨A, n, c, e, own_fr ho hf (fun _ _ x => x), hn⟩
theorem Encoded.bytes {w w' : World} {l : List UInt8} {e : Ending} (h : Encoded w l e w') : ∃ v, e = .returned v ∧ BytesV l v w' ∧ Fr Nothing w w' := by
  obtain ⟨v, rfl, hg⟩ := h
  obtain ⟨A, n, c, rfl, hn, _⟩ := own_slice hg.own
  exact ⟨_, rfl, ⟨A, n, c, rfl, hg.own, hn.out⟩, hg.fr0⟩

set_option maxRecDepth 100000 in
set_option maxHeartbeats 4000000 in
theorem StateEquals_any (n1 : Nat) (xs : List CV) (A1 : Option Addr) (c1 : Nat) (S1 : Nat → Prop) (n2 : Nat) (ys : List CV) (A2 : Option Addr) (c2 : Nat) (S2 : Nat → Prop) (w : World) (hD : CL w S1 A1 n1 xs) (hn : n1 ≤ 9223372036854775807) (hD2 : CL w S2 A2 n2 ys) (hn2 : n2 ≤ 9223372036854775807) (hU : UsaT w) :
    Calls Tryd.prog 7 #[.slice A1 n1 c1, .slice A2 n2 c2] w (TrueNew w) := by
  have HU := Lib.hid hU
  have CK : Hid (∀ w', Fr Nothing w w' → Calls Tryd.prog 12 #[] w' (Same' w' (.bool true))) := fun w' hf => known_any w' (HU.out.fr0 hf)
  have G1 : Hid (GoodK 24 (fillL xs n1)) := fillL_good xs n1 hD.len
  have G2 : Hid (GoodK 24 (fillL ys n2)) := fillL_good ys n2 hD2.len
  have CF1 : Hid (∀ w', Fr Nothing w w' → Calls Tryd.prog 17 #[.slice A1 n1 c1] w' (Filled w' (fillL xs n1))) := fun w' hf => fill_any n1 xs A1 c1 S1 w' (hD.fr0 hf) hn (HU.out.fr0 hf)
  have CF2 : Hid (∀ w', Fr Nothing w w' → Calls Tryd.prog 17 #[.slice A2 n2 c2] w' (Filled w' (fillL ys n2))) := fun w' hf => fill_any n2 ys A2 c2 S2 w' (hD2.fr0 hf) hn2 (HU.out.fr0 hf)
  clear hD hn hU hD2 hn2
  generalize fillL xs n1 = L1 at *
  generalize fillL ys n2 = L2 at *
  obtain ⟨E, hE⟩ : ∃ E : Bool, (E = true ↔ L1 = L2) := by
    by_cases h : L1 = L2
    · exact ⟨true, fun _ => h, fun _ => rfl⟩
    · exact ⟨false, fun e => (by cases e), fun e => absurd e h⟩
  have hE2 : E = true ↔ L2 = L1 := hE.trans ⟨fun h => h.symm, fun h => h.symm⟩
  have hSE := enc_eq G1.out G2.out (by omega) hE
  have L60 : ∀ {L : List Ent}, GoodK 24 L → L.length ≤ 60000 := fun h => by have := h.len; omega
  have CS : Hid (∀ (A B : Option Addr) (NA cA NB cB : Nat) (w' : World), EL w' (fun _ => True) A NA L1 → EL w' (fun _ => True) B NB L2 → Calls Tryd.prog 28 #[.slice A NA cA, .slice B NB cB] w' (Same' w' (.bool E))) := fun A B NA cA NB cB w' h1 h2 => rSame_any L1 L2 A B NA NB cA cB _ _ w' h1 h2 (by have := h1.len; have := L60 G1.out; omega) (by have := h2.len; have := L60 G2.out; omega) E hE
  have CE1 : Hid (∀ s1 s2 w', StL w' s1 L1 → StL w' s2 L2 → Calls Tryd.prog 26 #[.pointer (some ⟨s1, 0, none⟩), .pointer (some ⟨s2, 0, none⟩)] w' (Same' w' (.bool E))) := fun s1 s2 w' h1 h2 => Equal_any L1 L2 s1 s2 w' h1 h2 (G1.out.good (by omega)) (G2.out.good (by omega)) E hE
  have CE2 : Hid (∀ s1 s2 w', StL w' s1 L2 → StL w' s2 L1 → Calls Tryd.prog 26 #[.pointer (some ⟨s1, 0, none⟩), .pointer (some ⟨s2, 0, none⟩)] w' (Same' w' (.bool E))) := fun s1 s2 w' h1 h2 => Equal_any L2 L1 s1 s2 w' h1 h2 (G2.out.good (by omega)) (G1.out.good (by omega)) E hE2
  have CN1 : Hid (∀ s w', StL w' s L1 → UsaT w' → Calls Tryd.prog 29 #[.pointer (some ⟨s, 0, none⟩)] w' (Encoded w' (encS L1))) := fun s w' h1 hu => SEnc_any L1 s w' h1 hu (G1.out.small (by omega))
  have CN2 : Hid (∀ s w', StL w' s L2 → UsaT w' → Calls Tryd.prog 29 #[.pointer (some ⟨s, 0, none⟩)] w' (Encoded w' (encS L2))) := fun s w' h1 hu => SEnc_any L2 s w' h1 hu (G2.out.small (by omega))
  clear L60 hE hE2 G1 G2
  obtain ⟨b1, hb1⟩ : ∃ b : ByteArray, b = ⟨(encS L1).toArray⟩ := ⟨_, rfl⟩
  obtain ⟨b2, hb2⟩ : ∃ b : ByteArray, b = ⟨(encS L2).toArray⟩ := ⟨_, rfl⟩
  rw [← hb1, ← hb2] at hSE
  have HSE := Lib.hid hSE
  have HB1 := Lib.hid hb1
  have HB2 := Lib.hid hb2
  clear hSE hb1 hb2
  go_enter Tryd.func7, Tryd.ntmps7
  go_wp2_with fail
  refine (CK.out _ (Fr.refl _ _)).mono ?_
  rintro e w1 ⟨rfl, f1⟩
  have F1 := Lib.hid f1
  clear f1
  go_wp2_with fail
  refine (CF1.out _ F1.out).mono ?_
  rintro e w2 ⟨s, rv, rfl, f2, hS, hR⟩
  have F2 := Lib.hid (F1.out.trans f2)
  have HS := Lib.hid hS
  have HR := Lib.hid hR
  clear f2 hS hR F1
  go_wp2_with fail
  refine (CF2.out _ F2.out).mono ?_
  rintro e w3 ⟨t, rw2, rfl, f3, hS2, hR2⟩
  have F3 := Lib.hid (F2.out.trans f3)
  have HS3 := Lib.hid (HS.out.fr0 f3)
  have HR3 := Lib.hid (HR.out.fr0 f3)
  have HT3 := Lib.hid hS2
  have HQ3 := Lib.hid hR2
  clear f3 hS2 hR2 F2 HS HR
  obtain ⟨A6, m6, k6, rfl, _, _⟩ := own_slice HR3.out
  obtain ⟨A7, m7, k7, rfl, _, _⟩ := own_slice HQ3.out
  go_wp2_with fail
  refine (CS.out A6 A7 m6 k6 m7 k7 _ HR3.out.el.2.1 HQ3.out.el.2.1).mono ?_
  rintro e w4 ⟨rfl, f4⟩
  have F4 := Lib.hid f4
  have U4 : Hid (UsaT w4) := HU.out.fr0 (F3.out.trans f4)
  have HS4 := Lib.hid (HS3.out.fr0 f4)
  have HT4 := Lib.hid (HT3.out.fr0 f4)
  have F34 := Lib.hid (F3.out.trans f4)
  clear f4 HS3 HT3 HR3 HQ3 F3 F4
  go_upto_region 6 with fail
  refine wp_region_st 29 Nothing [Is (.pointer (some ⟨s, 0, none⟩)), Is (.pointer (some ⟨t, 0, none⟩)), Is (.bool E), Is (.bool E), Is (.bool true), Is (.bool true), Is (.pointer (some ⟨t, 0, none⟩)), Is (.pointer (some ⟨s, 0, none⟩)), Is (.bool E), Is (.bool E), Is (.bool true), Is (.bool true), Is (.bool true), Is (.pointer (some ⟨s, 0, none⟩)), (fun zv zW => BytesV (encS L1) zv zW), Is (.string b1), Is (.pointer (some ⟨t, 0, none⟩)), (fun zv zW => BytesV (encS L2) zv zW), Is (.string b2), Is (.bool E), Is (.bool E), Is (.bool true), Is (.bool true), Is (.bool true), Is (.pointer (some ⟨s, 0, none⟩)), Is (.bool false), Is (.bool true), Is (.bool true), Is (.bool true)] [] (fun _ => True) (fun _ _ => false) (by kernel_rfl) (by kernel_rfl) (by kernel_rfl) (by kernel_rfl) ⟨Is.stable _, Is.stable _, Is.stable _, Is.stable _, Is.stable _, Is.stable _, Is.stable _, Is.stable _, Is.stable _, Is.stable _, Is.stable _, Is.stable _, Is.stable _, Is.stable _, fun _ _ _ _ f h => h.fr0 f, Is.stable _, Is.stable _, fun _ _ _ _ f h => h.fr0 f, Is.stable _, Is.stable _, Is.stable _, Is.stable _, Is.stable _, Is.stable _, Is.stable _, Is.stable _, Is.stable _, Is.stable _, Is.stable _, trivial⟩ trivial (fun _ _ _ _ h => h) trivial ?_ ?_
  · refine ⟨?a13_0, ?a13_1, ?a13_2, ?a13_3, ?a13_4, ?a13_5, ?a13_6, ?a13_7, ?a13_8, ?a13_9, ?a13_10, ?a13_11, ?a13_12, ?a13_13, ?a13_14, ?a13_15, ?a13_16, ?a13_17, ?a13_18, ?a13_19, ?a13_20, ?a13_21, ?a13_22, ?a13_23, ?a13_24, ?a13_25, ?a13_26, ?a13_27, ?a13_28, trivial⟩
    all_goals intro u w' d hf hR k1 k0 kM
    all_goals simp only [List.take_succ_cons, List.take_zero, List.map_cons, List.map_nil, puts, Act.put, List.setIfInBounds_toArray, List.set_cons_zero, List.set_cons_succ, Nat.reduceAdd, Nat.zero_add]
    case a13_2 =>
      simp only [show u 0 = _ from hR 0 (by kernel_rfl), show u 1 = _ from hR 1 (by kernel_rfl)]
      clear hR k1 k0 kM
      refine .inl ⟨by kernel_rfl, ?_⟩
      go_simp
      refine (CE1.out _ _ _ (HS4.out.fr0 hf) (HT4.out.fr0 hf)).mono ?_
      rintro e w5 ⟨rfl, f5⟩
      exact ⟨_, rfl, f5.weak, rfl, trivial⟩
    case' a13_4 => simp only [show u 2 = _ from hR 2 (by kernel_rfl), show u 3 = _ from hR 3 (by kernel_rfl)]
    case' a13_5 => simp only [show u 4 = _ from hR 4 (by kernel_rfl)]
    case' a13_6 => simp only [show u 5 = _ from hR 5 (by kernel_rfl)]
    case' a13_7 => simp only [show u 5 = _ from hR 5 (by kernel_rfl)]
    case a13_8 =>
      simp only [show u 6 = _ from hR 6 (by kernel_rfl), show u 7 = _ from hR 7 (by kernel_rfl), show u 5 = _ from hR 5 (by kernel_rfl)]
      clear hR k1 k0 kM
      refine .inl ⟨by kernel_rfl, ?_⟩
      go_simp
      refine (CE2.out _ _ _ (HT4.out.fr0 hf) (HS4.out.fr0 hf)).mono ?_
      rintro e w5 ⟨rfl, f5⟩
      exact ⟨_, rfl, f5.weak, rfl, trivial⟩
    case' a13_9 => simp only [show u 5 = _ from hR 5 (by kernel_rfl)]
    case' a13_10 => simp only [show u 8 = _ from hR 8 (by kernel_rfl), show u 9 = _ from hR 9 (by kernel_rfl), show u 5 = _ from hR 5 (by kernel_rfl)]
    case' a13_11 => simp only [show u 5 = _ from hR 5 (by kernel_rfl), show u 10 = _ from hR 10 (by kernel_rfl)]
    case' a13_12 => simp only [show u 11 = _ from hR 11 (by kernel_rfl)]
    case' a13_13 => simp only [show u 12 = _ from hR 12 (by kernel_rfl)]
    case a13_14 =>
      simp only [show u 13 = _ from hR 13 (by kernel_rfl), show u 12 = _ from hR 12 (by kernel_rfl)]
      clear hR k1 k0 kM
      refine .inl ⟨by kernel_rfl, ?_⟩
      go_simp
      refine (CN1.out _ _ (HS4.out.fr0 hf) (U4.out.fr0 hf)).mono ?_
      rintro e w5 he
      obtain ⟨v, rfl, hb, f5⟩ := he.bytes
      exact ⟨_, rfl, f5.weak, hb, trivial⟩
    case a13_15 =>
      obtain ⟨A14, n14, c14, e14, ho14, hn14⟩ := hR 14 (by kernel_rfl)
      simp only [e14, show u 12 = _ from hR 12 (by kernel_rfl)]
      clear hR k1 k0 kM
      refine .inl ⟨by kernel_rfl, ?_⟩
      subst hn14
      have hcv := run_strT w' _ _ _ c14 _ (OwnB.rd ho14 rfl)
      rw [← HB1.out] at hcv
      go_simp
      exact ⟨_, rfl, Fr.refl _ _, rfl, trivial⟩
    case' a13_16 => simp only [show u 12 = _ from hR 12 (by kernel_rfl)]
    case a13_17 =>
      simp only [show u 16 = _ from hR 16 (by kernel_rfl), show u 12 = _ from hR 12 (by kernel_rfl)]
      clear hR k1 k0 kM
      refine .inl ⟨by kernel_rfl, ?_⟩
      go_simp
      refine (CN2.out _ _ (HT4.out.fr0 hf) (U4.out.fr0 hf)).mono ?_
      rintro e w5 he
      obtain ⟨v, rfl, hb, f5⟩ := he.bytes
      exact ⟨_, rfl, f5.weak, hb, trivial⟩
    case a13_18 =>
      obtain ⟨A17, n17, c17, e17, ho17, hn17⟩ := hR 17 (by kernel_rfl)
      simp only [e17, show u 12 = _ from hR 12 (by kernel_rfl)]
      clear hR k1 k0 kM
      refine .inl ⟨by kernel_rfl, ?_⟩
      subst hn17
      have hcv := run_strT w' _ _ _ c17 _ (OwnB.rd ho17 rfl)
      rw [← HB2.out] at hcv
      go_simp
      exact ⟨_, rfl, Fr.refl _ _, rfl, trivial⟩
    case a13_19 =>
      simp only [show u 15 = _ from hR 15 (by kernel_rfl), show u 18 = _ from hR 18 (by kernel_rfl), show u 12 = _ from hR 12 (by kernel_rfl)]
      clear hR k1 k0 kM
      refine .inl ⟨by kernel_rfl, ?_⟩
      have q := HSE.out
      go_simp
      exact ⟨_, rfl, Fr.refl _ _, rfl, trivial⟩
    case' a13_20 => simp only [show u 12 = _ from hR 12 (by kernel_rfl)]
    case' a13_21 => simp only [show u 19 = _ from hR 19 (by kernel_rfl), show u 20 = _ from hR 20 (by kernel_rfl), show u 12 = _ from hR 12 (by kernel_rfl)]
    case' a13_22 => simp only [show u 12 = _ from hR 12 (by kernel_rfl), show u 21 = _ from hR 21 (by kernel_rfl)]
    case' a13_23 => simp only [show u 22 = _ from hR 22 (by kernel_rfl)]
    case' a13_24 => simp only [show u 23 = _ from hR 23 (by kernel_rfl)]
    case a13_25 =>
      simp only [show u 24 = _ from hR 24 (by kernel_rfl), show u 23 = _ from hR 23 (by kernel_rfl)]
      clear hR k1 k0 kM
      refine .inl ⟨by kernel_rfl, ?_⟩
      go_simp
      refine (Equal_nilR s _).mono ?_
      rintro e w5 ⟨rfl, f5⟩
      exact ⟨_, rfl, f5.weak, rfl, trivial⟩
    case' a13_26 => simp only [show u 25 = _ from hR 25 (by kernel_rfl), show u 23 = _ from hR 23 (by kernel_rfl)]
    case' a13_27 => simp only [show u 23 = _ from hR 23 (by kernel_rfl), show u 26 = _ from hR 26 (by kernel_rfl)]
    case' a13_28 => simp only [show u 27 = _ from hR 27 (by kernel_rfl)]
    all_goals
      clear hR k1 k0 kM
      refine .inl ⟨by kernel_rfl, ?_⟩
      go_simp
      exact ⟨_, rfl, Fr.refl _ _, rfl, trivial⟩
  · intro u w' hf hR kM
    have kz : u 28 = _ := hR 28 (by omega)
    clear hR kM
    simp only [List.take_succ_cons, List.take_zero, List.map_cons, List.map_nil, puts, Act.put, List.setIfInBounds_toArray, List.set_cons_zero, List.set_cons_succ, List.drop_succ_cons, List.drop_zero, Nat.reduceAdd, Nat.zero_add, kz]
    have HF := Lib.hid (F34.out.trans hf)
    clear hf kz
    go_wp2
    go_ret
    exact ⟨rfl, HF.out⟩
end Go.Proofs.YtpnchdgplpdefaaDoor
