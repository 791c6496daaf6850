/- The two tables of package sha256 ahead of others. -/
import Derived.Test.YtpnchdgplpdefaaGreatDoorEnSbU
import Derived.Test.YtpnchdgplpdefaaGreatDoorEnSbJ
import Derived.Test.YtpnchdgplpdefaaGreatDoorEnSbW
import Derived.Test.YtpnchdgplpdefaaGreatDoorEnScv
import Derived.Test.YtpnchdgplpdefaaGreatDoorEnScl
import Derived.Test.YtpnchdgplpdefaaGreatDoorEnSbR
import Derived.Test.YtpnchdgplpdefaaGreatDoorEnShaC
import Derived.Test.YtpnchdgplpdefaaGreatDoorRows
import Derived.Lib.LaidTab
import Derived.LaidMore
import Derived.Stop.LaidErr
import Derived.Deep.Slices
import Derived.OpenShut
import Derived.ProofKit
namespace Go.Proofs.YtpnchdgplpdefaaGreatDoor
open Go.RowKit Go.Shelf
theorem del_here {p a : List Ent} {x : Ent} (h : ∀ y ∈ p, cmpN y.1 x.1 < 0) : delL x.1 (p ++ x :: a) = p ++ a := by
 rw [delL_gt p _ (fun y hy => cmpN_pos (h y hy)), delL, if_pos (cmpN_is.refl _)]
theorem ins_before {p a : List Ent} {x y : Ent} (h : ∀ z ∈ p, cmpN z.1 y.1 < 0) (hc : cmpN y.1 x.1 < 0) : insL y.1 y.2 (p ++ x :: a) = (p ++ [y]) ++ x :: a := by
 rw [insL_gt p _ (fun z hz => cmpN_pos (h z hz)), insL, if_pos hc, List.append_assoc]
 rfl
theorem ins_last {p : List Ent} {y : Ent} (h : ∀ z ∈ p, cmpN z.1 y.1 < 0) : insL y.1 y.2 p = p ++ [y] := by
 have e := insL_gt (nm := y.1) (v := y.2) p [] (fun z hz => cmpN_pos (h z hz))
 rw [List.append_nil] at e
 rw [e]
 rfl
theorem ins_here {p a : List Ent} {x y : Ent} (h : ∀ z ∈ p, cmpN z.1 y.1 < 0) (hc : cmpN y.1 x.1 = 0) : insL y.1 y.2 (p ++ x :: a) = (p ++ [y]) ++ a := by
 rw [insL_gt p _ (fun z hz => cmpN_pos (h z hz)), insL, if_neg (by omega), if_pos hc, List.append_assoc]
 rfl
theorem SortL.glue {p a b : List Ent} {y : Ent} (h1 : SortL (p ++ a)) (h2 : SortL (p ++ y :: b)) (h : ∀ z ∈ a, cmpN y.1 z.1 < 0) : SortL ((p ++ [y]) ++ a) := by
 obtain ⟨_, q1, q2⟩ := List.pairwise_append.1 h1
 obtain ⟨q3, _, q4, _⟩ := SortL.parts h2
 refine List.pairwise_append.2 ⟨List.pairwise_append.2 ⟨q3, List.pairwise_singleton _ _, fun z hz u hu => ?_⟩, q1, fun z hz u hu => ?_⟩
 ·rw [List.mem_singleton] at hu
  rw [hu]
  exact q4 z hz
 ·rcases List.mem_append.1 hz with h3 | h3
  ·exact q2 z h3 u hu
  ·rw [List.mem_singleton] at h3
   rw [h3]
   exact h u hu
theorem SortL.gone {p a : List Ent} {x : Ent} (h : SortL (p ++ x :: a)) : SortL (p ++ a) := h.sublist ((List.Sublist.refl p).append (List.sublist_cons_self x a))
theorem run_diff : ∀ (a b p : List Ent), SortL (p ++ a) → SortL (p ++ b) → runC (diffL a b) (p ++ a) = p ++ b
 | [], [], p, _, _ => by rw [diffL]; rfl
 | x :: a, [], p, ha, hb => by
  obtain ⟨_, _, q, _⟩ := SortL.parts ha
  rw [diffL]
  show runC (diffL a []) (delL x.1 (p ++ x :: a)) = _
  rw [del_here q]
  exact run_diff a [] p ha.gone hb
 | [], y :: b, p, ha, hb => by
  obtain ⟨_, _, q, _⟩ := SortL.parts hb
  rw [diffL]
  show runC (diffL [] b) (insL y.1 y.2 (p ++ [])) = _
  rw [List.append_nil, ins_last q]
  have h := run_diff [] b (p ++ [y]) (SortL.glue ha hb (fun z hz => by cases hz)) (by rw [List.append_assoc]; exact hb)
  rw [List.append_nil, List.append_assoc] at h
  exact h
 | x :: a, y :: b, p, ha, hb => by
  obtain ⟨_, sa, qx, la⟩ := SortL.parts ha
  obtain ⟨_, sb, qy, lb⟩ := SortL.parts hb
  rw [diffL]
  split
  next =>
   show runC (diffL a (y :: b)) (delL x.1 (p ++ x :: a)) = _
   rw [del_here qx]
   exact run_diff a (y :: b) p ha.gone hb
  next hn =>
   split
   next hp =>
    have hc := cmpN_neg hp
    show runC (diffL (x :: a) b) (insL y.1 y.2 (p ++ x :: a)) = _
    rw [ins_before qy hc]
    have hlt : ∀ z ∈ x :: a, cmpN y.1 z.1 < 0 := fun z hz => by
     rcases List.mem_cons.1 hz with rfl | h
     ·exact hc
     ·exact cmpN_is.trans _ _ _ hc (la z h)
    have h := run_diff (x :: a) b (p ++ [y]) (SortL.glue ha hb hlt) (by rw [List.append_assoc]; exact hb)
    rw [h, List.append_assoc]
    rfl
   next hq =>
    have he : cmpN x.1 y.1 = 0 := by omega
    have hxy : x.1 = y.1 := cmpN_is.eq _ _ he
    have hc : cmpN y.1 x.1 = 0 := by rw [hxy]; exact cmpN_is.refl _
    have hg : SortL ((p ++ [y]) ++ a) := SortL.glue ha.gone hb (fun z hz => by rw [← hxy]; exact la z hz)
    have h := run_diff a b (p ++ [y]) hg (by rw [List.append_assoc]; exact hb)
    rw [List.append_assoc] at h
    split
    next hv =>
     have e : x = y := Prod.ext hxy ((beqB _ _).1 hv)
     rw [e]
     rw [List.append_assoc] at h
     exact h
    next =>
     show runC (diffL a b) (insL y.1 y.2 (p ++ x :: a)) = _
     rw [ins_here qy hc, List.append_assoc]
     rw [List.append_assoc] at h
     exact h
termination_by a b => a.length + b.length
theorem diff_run {a b : List Ent} (ha : SortL a) (hb : SortL b) : runC (diffL a b) a = b := run_diff a b [] ha hb
theorem diff_nil {a b : List Ent} (ha : SortL a) (hb : SortL b) : diffL a b = [] ↔ a = b := ⟨fun h => by have e := diff_run ha hb; rw [h] at e; exact e, fun h => by rw [h]; exact diff_self b⟩
end Go.Proofs.YtpnchdgplpdefaaGreatDoor
namespace Go.Proofs.YtpnchdgplpdefaaGreatDoor
open Go.RowKit Go.Shelf
set_option maxRecDepth 100000 in
set_option maxHeartbeats 4000000 in
theorem Equal_any (LA LB : List Ent) (s1 s2 : Nat) (w : World) (hA : StL w s1 LA) (hB : StL w s2 LB) (gA : GoodL LA) (gB : GoodL LB) (E : Bool) (hE : E = true ↔ LA = LB) :
  Calls Tryz.prog 11 #[.pointer (some ⟨s1, 0, none⟩), .pointer (some ⟨s2, 0, none⟩)] w (Same' w (.bool E)) := by
 have CD : Hid (∀ w', Fr Nothing w w' → Calls Tryz.prog 40 #[.pointer (some ⟨s1, 0, none⟩), .pointer (some ⟨s2, 0, none⟩)] w' (Diffed w' (diffL LA LB))) := fun w' f => Diff_any LA LB s1 s2 w' (hA.fr0 f) (hB.fr0 f) gA.len gB.len gA.short gB.short
 have HNIL := Lib.hid (diff_nil gA.sort gB.sort)
 obtain ⟨tA, sA, eA⟩ := hA
 obtain ⟨tB, sB, eB⟩ := hB
 have CLA : Hid (Calls Tryz.prog 22 #[.pointer (some ⟨s1, 0, none⟩)] w (SameW w (.int .i64 (LA.length : Int)))) := by
  have h := Len_any w s1 tA sA
  rw [← tA.toL_length, eA] at h
  exact h
 have CLB : Hid (Calls Tryz.prog 22 #[.pointer (some ⟨s2, 0, none⟩)] w (SameW w (.int .i64 (LB.length : Int)))) := by
  have h := Len_any w s2 tB sB
  rw [← tB.toL_length, eB] at h
  exact h
 have CBA : Hid (Calls Tryz.prog 39 #[.pointer (some ⟨s1, 0, none⟩)] w (SameW w (.int .i64 (bytesL LA : Int)))) := by
  have h := Bytes_any w s1 tA sA
  rw [tA.bytes_toL, eA] at h
  exact h
 have CBB : Hid (Calls Tryz.prog 39 #[.pointer (some ⟨s2, 0, none⟩)] w (SameW w (.int .i64 (bytesL LB : Int)))) := by
  have h := Bytes_any w s2 tB sB
  rw [tB.bytes_toL, eB] at h
  exact h
 have HL : Hid (LA = LB → LA.length = LB.length) := fun h => by rw [h]
 have HB : Hid (LA = LB → bytesL LA = bytesL LB) := fun h => by rw [h]
 clear sA sB eA eB gA gB
 have HE := Lib.hid hE
 clear hE
 generalize LA.length = na at *
 generalize LB.length = nb at *
 generalize bytesL LA = ba at *
 generalize bytesL LB = bb at *
 generalize diffL LA LB = D at *
 go_enter Tryz.func11, Tryz.ntmps11
 go_wp2_with fail
 refine CLA.out.mono ?_
 rintro e w' ⟨rfl, rfl⟩
 go_wp2_with fail
 refine CLB.out.mono ?_
 rintro e w' ⟨rfl, rfl⟩
 by_cases h1 : na = nb
 ·subst h1
  clear HL
  go_wp2_with fail
  refine CBA.out.mono ?_
  rintro e w' ⟨rfl, rfl⟩
  go_wp2_with fail
  refine CBB.out.mono ?_
  rintro e w' ⟨rfl, rfl⟩
  by_cases h2 : ba = bb
  ·subst h2
   clear HB
   go_wp2_with fail
   refine (CD.out _ (Fr.refl _ _)).mono ?_
   rintro e w2 ⟨v, rfl, hG⟩
   obtain ⟨A9, n9, c9, rfl, H9, _⟩ := own_slice hG.own
   have F9 := Lib.hid hG.fr0
   have HN : Hid (n9 = D.length) := H9.out
   clear hG H9
   by_cases hd : D = []
   ·have hn : n9 = 0 := by rw [HN.out, hd]; rfl
    obtain rfl : E = true := HE.out.2 (HNIL.out.1 hd)
    subst hn
    go_wp2
    go_ret
    exact ⟨rfl, F9.out⟩
   ·have hn : n9 ≠ 0 := fun h => hd (List.length_eq_zero_iff.1 (by rw [← HN.out]; exact h))
    obtain rfl : E = false := Bool.eq_false_iff.2 (fun h => hd (HNIL.out.2 (HE.out.1 h)))
    have t9 : ((n9 : Int) == 0) = false := beq_eq_false_iff_ne.2 (by omega)
    go_wp2
    go_ret
    exact ⟨rfl, F9.out⟩
  ·obtain rfl : E = false := Bool.eq_false_iff.2 (fun h => h2 (HB.out (HE.out.1 h)))
   have t9 : ((ba : Int) == (bb : Int)) = false := beq_eq_false_iff_ne.2 (by omega)
   go_wp2
   go_ret
   exact ⟨rfl, Fr.refl _ _⟩
 ·obtain rfl : E = false := Bool.eq_false_iff.2 (fun h => h1 (HL.out (HE.out.1 h)))
  have t9 : ((na : Int) == (nb : Int)) = false := beq_eq_false_iff_ne.2 (by omega)
  go_wp2
  go_ret
  exact ⟨rfl, Fr.refl _ _⟩
end Go.Proofs.YtpnchdgplpdefaaGreatDoor
namespace Go.Proofs.YtpnchdgplpdefaaGreatDoor
open Go.RowKit Go.Shelf
set_option maxRecDepth 100000 in
set_option maxHeartbeats 4000000 in
theorem StateEncodes_any (n0 : Nat) (xs : List CV) (A0 : Option Addr) (c0 : Nat) (S0 : Nat → Prop) (w : World) (hD : CL w S0 A0 n0 xs) (hn : n0 ≤ 9223372036854775807) (hU : UsaT w) (hT : ShaTab w) :
  Calls Tryz.prog 3 #[.slice A0 n0 c0] w (TrueNew w) := by
 have HU := Lib.hid hU
 have HT := Lib.hid hT
 have CK : Hid (∀ w', Fr Nothing w w' → Calls Tryz.prog 4 #[] w' (Same' w' (.bool true))) := fun w' hf => known_any w' (HU.out.fr0 hf)
 have CF : Hid (∀ w', Fr Nothing w w' → Calls Tryz.prog 5 #[.slice A0 n0 c0] w' (Filled w' (fillL xs n0))) := fun w' hf => fill_any n0 xs A0 c0 S0 w' (hD.fr0 hf) hn (HU.out.fr0 hf)
 have HK : Hid (GoodK 24 (fillL xs n0)) := fillL_good xs n0 hD.len
 generalize fillL xs n0 = L at *
 have HL := HK.out.enc_len
 have HLL := HK.out.len
 have HDEC : Hid (decS (encS L) = (0, L)) := decS_enc HK.out.sort (by omega) HK.out.ok (fun y hy => by have := HK.out.owner y hy; omega) (fun y hy => HK.out.text y hy) (fun y hy => by have := HK.out.value y hy; omega)
 have HEL : Hid ((encS L).length ≤ 70000) := by simp only [Hid]; omega
 clear hD hn hU hT HL HLL
 go_enter Tryz.func3, Tryz.ntmps3
 go_wp2_with fail
 refine (CK.out _ (Fr.refl _ _)).mono ?_
 rintro e w1 ⟨rfl, f1⟩
 have F1 := Lib.hid f1
 clear f1 CK
 go_wp2_with fail
 refine (CF.out _ F1.out).mono ?_
 rintro e w2 ⟨s, rv, rfl, f2, hs2, hr2⟩
 have F2 := Lib.hid (F1.out.trans f2)
 obtain ⟨AR, NR0, CR, rfl, _, _⟩ := own_slice hr2
 obtain ⟨hnr, hel, hcr⟩ := hr2.el
 have SL2 := Lib.hid hs2
 have RW2 := Lib.hid hr2
 have EL2 := Lib.hid hel
 clear f2 hs2 hr2 hel hcr hnr CF F1
 have CE0 : Hid (Calls Tryz.prog 6 #[.pointer (some ⟨s, 0, none⟩)] w2 (Encoded w2 (encS L))) := SEnc_any L s w2 SL2.out (HU.out.fr0 F2.out) (HK.out.small (by omega))
 go_wp2_with fail
 refine CE0.out.mono ?_
 rintro e w3 ⟨v, rfl, hg⟩
 obtain ⟨A5, n5, c5, rfl, H5, _⟩ := own_slice hg.own
 have F3 := Lib.hid (F2.out.trans hg.fr0)
 have SL3 := Lib.hid (SL2.out.fr0 hg.fr0)
 have RW3 := Lib.hid (RW2.out.fr0 hg.fr0)
 have EL3 := Lib.hid (EL2.out.fr0 hg.fr0)
 have OB3 : Hid (OwnB w3 (.slice A5 n5 c5) (encS L)) := hg.own
 have CD : Hid (Calls Tryz.prog 7 #[.slice A5 n5 c5] w3 (SDecoded w3 (0, L))) := by
  have h := SDec_any A5 n5 c5 (encS L) _ w3 (OwnB.rd hg.own H5.out) HEL.out (HU.out.fr0 F3.out)
  rw [HDEC.out] at h
  exact h
 have HN5 := Lib.hid H5.out
 clear hg H5 CE0 SL2 RW2 EL2 F2 HDEC
 go_wp2_with fail
 refine CD.out.mono ?_
 rintro e w4 ⟨p, rfl, f4, hcase⟩
 obtain ⟨t, rfl, ht4⟩ : ∃ t, p = some ⟨t, 0, none⟩ ∧ StL w4 t L := by
  rcases hcase with ⟨_, h⟩ | ⟨h, _⟩
  ·exact h
  ·exact absurd rfl h
 have F4 := Lib.hid (F3.out.trans f4)
 have HB5 : Hid (OwnB w4 (.slice A5 n5 c5) (encS L)) := own_fr OB3.out f4 (fun _ _ x => x)
 have CE : Hid (∀ w', Fr Nothing w4 w' → Calls Tryz.prog 8 #[.slice AR NR0 CR] w' (Encoded w' (encS L))) := fun w' f => rSEnc_any L AR NR0 CR _ w' (EL3.out.fr0 (f4.trans f)) HK.out
 have CQ : Hid (∀ w', Fr Nothing w4 w' → Calls Tryz.prog 11 #[.pointer (some ⟨t, 0, none⟩), .pointer (some ⟨s, 0, none⟩)] w' (Same' w' (.bool true))) := fun w' f => Equal_any L L t s w' (ht4.fr0 f) (SL3.out.fr0 (f4.trans f)) (HK.out.good (by omega)) (HK.out.good (by omega)) true (by simp)
 have CI : Hid (∀ w', Fr Nothing w4 w' → Calls Tryz.prog 12 #[.pointer (some ⟨t, 0, none⟩), .slice AR NR0 CR] w' (Same' w' (.bool true))) := fun w' f => Is_good 24 L t _ w' (ht4.fr0 f) (RW3.out.fr0 (f4.trans f)) HK.out (by omega)
 have hs32 := shaL_length (encS L)
 have CS : Hid (∀ w', Fr Nothing w4 w' → Calls Tryz.prog 9 #[.pointer (some ⟨s, 0, none⟩)] w' (Same' w' (digV (shaL (encS L))))) := fun w' f => SDig_any L s w' (SL3.out.fr0 (f4.trans f)) (HU.out.fr0 (F4.out.trans f)) (HT.out.fr0 (F4.out.trans f)) HK.out
 have CRD : Hid (∀ w', Fr Nothing w4 w' → Calls Tryz.prog 10 #[.slice AR NR0 CR] w' (Same' w' (digV (shaL (encS L))))) := fun w' f => rSDig_any L AR NR0 CR _ w' (EL3.out.fr0 (f4.trans f)) HK.out
 clear hcase f4 ht4 SL3 RW3 EL3 OB3 CD F3 HK HEL HU HT
 generalize encS L = l at *
 obtain ⟨x, hx⟩ : ∃ x : ByteArray, x = ⟨l.toArray⟩ := ⟨_, rfl⟩
 have HX := Lib.hid hx
 generalize shaL l = DL at *
 have HEQ : Hid (∀ w, (binOp .eql 34 (digV DL) (digV DL)).run Tryz.prog w = .ok (.bool true) w) := fun w => by
  rw [run_eqD w _ Tryz.underlying34 DL DL hs32 hs32, decide_eq_true rfl]
 unfold digV at HEQ CS CRD
 generalize (DL.map bvI).toArray = RA at *
 clear hs32 hx
 go_upto_region 6 with fail
 refine wp_fa 28 [iS (.slice A5 n5 c5), iS (.string x), iS (.slice AR NR0 CR), ⟨fun zv zW => BytesV l zv zW, fun _ _ _ f h => h.fr0 f⟩, iS (.string x), iS (.bool true), iS (.bool true), iS (.pointer (some ⟨s, 0, none⟩)), iS (.agg RA), iS (.slice AR NR0 CR), iS (.agg RA), iS (.bool true), iS (.bool true), iS (.bool true), iS (.int .i64 0), iS (.bool true), iS (.bool true), iS (.bool true), iS (.pointer (some ⟨t, 0, none⟩)), iS (.pointer (some ⟨s, 0, none⟩)), iS (.bool true), iS (.bool true), iS (.bool true), iS (.pointer (some ⟨t, 0, none⟩)), iS (.slice AR NR0 CR), iS (.bool true), iS (.bool true), iS (.bool true)] ?hxb ?_
 case hxb =>
  refine ⟨?xb0, ?xb1, ?xb2, ?xb3, ?xb4, ?xb5, ?xb6, ?xb7, ?xb8, ?xb9, ?xb10, ?xb11, ?xb12, ?xb13, ?xb14, ?xb15, ?xb16, ?xb17, ?xb18, ?xb19, ?xb20, ?xb21, ?xb22, ?xb23, ?xb24, ?xb25, ?xb26, ?xb27, trivial⟩
  all_goals intro u w' hf hR
  all_goals simp only [z1, z2, z3, z4, puts, Act.put, z5, z6, z7, Nat.reduceAdd, Nat.zero_add]
  case xb1 =>
   simp only [show u 0 = _ from hR 0]
   refine goS ?_
   have hcv := run_strT w' _ A5 n5 c5 _ ((OwnB.rd HB5.out HN5.out).fr0 hf)
   rw [← HX.out] at hcv
   go_simp
   exact ⟨_, rfl, Fr.refl _ _, rfl⟩
  case xb3 =>
   simp only [show u 2 = _ from hR 2]
   refine goS ?_
   go_simp
   refine (CE.out _ hf).mono ?_
   rintro e w5 he
   obtain ⟨v, rfl, hb, f5⟩ := he.bytes
   exact ⟨_, rfl, f5, hb⟩
  case xb4 =>
   obtain ⟨A3, n3, c3, e3, ho3, hn3⟩ := hR 3
   simp only [e3]
   refine goS ?_
   subst hn3
   have hcv := run_strT w' _ _ _ c3 _ (OwnB.rd ho3 rfl)
   rw [← HX.out] at hcv
   go_simp
   exact ⟨_, rfl, Fr.refl _ _, rfl⟩
  case' xb5 => simp only [show u 1 = _ from hR 1, show u 4 = _ from hR 4]
  case' xb6 => simp only [show u 5 = _ from hR 5]
  case' xb7 => simp only [show u 6 = _ from hR 6]
  case xb8 =>
   simp only [show u 7 = _ from hR 7, show u 6 = _ from hR 6]
   refine goS ?_
   go_simp
   refine (CS.out _ hf).mono ?_
   rintro e w4 ⟨rfl, f4⟩
   exact ⟨_, rfl, f4, rfl⟩
  case' xb9 => simp only [show u 6 = _ from hR 6]
  case xb10 =>
   simp only [show u 9 = _ from hR 9, show u 6 = _ from hR 6]
   refine goS ?_
   go_simp
   refine (CRD.out _ hf).mono ?_
   rintro e w4 ⟨rfl, f4⟩
   exact ⟨_, rfl, f4, rfl⟩
  case xb11 =>
   simp only [show u 8 = _ from hR 8, show u 10 = _ from hR 10, show u 6 = _ from hR 6]
   refine goS ?_
   exact wp_binAgg .eql _ _ _ _ rfl RA RA rfl rfl (by kernel_rfl) _ (HEQ.out _) ⟨_, rfl, Fr.refl _ _, rfl⟩
  case' xb12 => simp only [show u 6 = _ from hR 6, show u 11 = _ from hR 11]
  case' xb13 => simp only [show u 12 = _ from hR 12]
  case' xb14 => simp only [show u 13 = _ from hR 13]
  case' xb15 => simp only [show u 14 = _ from hR 14, show u 13 = _ from hR 13]
  case' xb16 => simp only [show u 13 = _ from hR 13, show u 15 = _ from hR 15]
  case' xb17 => simp only [show u 16 = _ from hR 16]
  case' xb18 => simp only [show u 17 = _ from hR 17]
  case' xb19 => simp only [show u 17 = _ from hR 17]
  case xb20 =>
   simp only [show u 18 = _ from hR 18, show u 19 = _ from hR 19, show u 17 = _ from hR 17]
   refine goS ?_
   go_simp
   refine (CQ.out _ hf).mono ?_
   rintro e w4 ⟨rfl, f4⟩
   exact ⟨_, rfl, f4, rfl⟩
  case' xb21 => simp only [show u 17 = _ from hR 17, show u 20 = _ from hR 20]
  case' xb22 => simp only [show u 21 = _ from hR 21]
  case' xb23 => simp only [show u 22 = _ from hR 22]
  case' xb24 => simp only [show u 22 = _ from hR 22]
  case xb25 =>
   simp only [show u 23 = _ from hR 23, show u 24 = _ from hR 24, show u 22 = _ from hR 22]
   refine goS ?_
   go_simp
   refine (CI.out _ hf).mono ?_
   rintro e w4 ⟨rfl, f4⟩
   exact ⟨_, rfl, f4, rfl⟩
  case' xb26 => simp only [show u 22 = _ from hR 22, show u 25 = _ from hR 25]
  case' xb27 => simp only [show u 26 = _ from hR 26]
  all_goals
   refine goS ?_
   go_simp
   exact ⟨_, rfl, Fr.refl _ _, rfl⟩
 intro u w' hf hR
 simp only [z1, z2, z3, z4, puts, Act.put, z5, z6, z7, z8, z9, Nat.reduceAdd, Nat.zero_add, show u 27 = _ from hR 27 (by omega)]
 clear hR
 have HF := Lib.hid (F4.out.trans hf)
 clear hf
 go_wp2
 go_ret
 exact ⟨rfl, HF.out⟩
end Go.Proofs.YtpnchdgplpdefaaGreatDoor
namespace Go.Proofs.YtpnchdgplpdefaaGreatDoor
open Go.RowKit Go.ChangeShapes Go.WideShapes Go.Deep
theorem cells97 : Tryz.prog.cellsOf 129 = 8 := by kernel_rfl
theorem cells122 : Tryz.prog.cellsOf 155 = 64 := by kernel_rfl
theorem cells96 : Tryz.prog.cellsOf 128 = 1 := by kernel_rfl
theorem g_initial : Tryz.prog.globalNamed "replevin/sha256.initial" = some 1 := by kernel_rfl
theorem ty_initial : (Tryz.prog.globals[1]?).map (·.type) = some 129 := by kernel_rfl
theorem g_constants : Tryz.prog.globalNamed "replevin/sha256.constants" = some 2 := by kernel_rfl
theorem ty_constants : (Tryz.prog.globals[2]?).map (·.type) = some 155 := by kernel_rfl
theorem sha_of {W : World} {rest : List (String × DataW Unit)} (h : laidMet Tryz.prog (("replevin/sha256.initial", Rows.laid_replevin_sha256_initial) :: ("replevin/sha256.constants", Rows.laid_replevin_sha256_constants) :: rest) W) : ShaTab W := by
 have h1 : Lib.TabIs Tryz.prog W "replevin/sha256.initial" .u32 initI := Lib.tabIs_of_head g_initial ty_initial Tryz.underlying129 Tryz.underlying128 cells96 cells97 (show laidMet Tryz.prog (_ :: _) W from h)
 have h2 : Lib.TabIs Tryz.prog W "replevin/sha256.constants" .u32 kInt := Lib.tabIs_of_head g_constants ty_constants Tryz.underlying155 Tryz.underlying128 cells96 cells122 (show laidMet Tryz.prog (_ :: _) W from laidMet.tail h)
 refine ⟨fun j u hu => ?_, fun j hj => ?_⟩
 ·have hj : j < 8 := (List.getElem?_eq_some_iff.1 hu).1
  rw [h1.cell g_initial j hj, ← hu]
  rcases j with _ | _ | _ | _ | _ | _ | _ | _ | j
  ·rfl
  ·rfl
  ·rfl
  ·rfl
  ·rfl
  ·rfl
  ·rfl
  ·rfl
  ·omega
 ·have hk : j < kTab.length := hj
  rw [h2.cell g_constants j (by rw [kInt, List.length_map]; exact hk)]
  unfold u32v kInt
  rw [List.getD_eq_getElem?_getD, List.getElem?_map, List.getElem?_eq_getElem hk]
  rfl
end Go.Proofs.YtpnchdgplpdefaaGreatDoor
