/- StateApplies: the walk (written by genSbS.py). -/
import Derived.Test.YtpnchdgplpdefaaDoorSbQ
import Derived.Test.YtpnchdgplpdefaaDoorSbR
import Derived.Test.YtpnchdgplpdefaaDoorSaL
namespace Go.Proofs.YtpnchdgplpdefaaDoor
open Go.RowKit Go.Shelf

theorem runC_good : ∀ (xs : List CV) (L : List Ent) (m : Nat), GoodK m L → (∀ c ∈ xs, SmallC c) → (∀ c ∈ xs, okNm c.nm = true) → GoodK (m + xs.length) (runC xs L)
  | [], _, _, h, _, _ => h
  | c :: xs, L, m, h, hs, ho => (runC_good xs (nextC c L) (m + 1) (h.next (hs c (by simp)) (ho c (by simp))) (fun d hd => hs d (by simp [hd])) (fun d hd => ho d (by simp [hd]))).more (by simp only [List.length_cons]; omega)
theorem GoodK.names {k : Nat} {L : List Ent} (h : GoodK k L) : ∀ x ∈ L, GoodN x.1 := fun x hx => ⟨by have := h.owner x hx; omega, by have := h.text x hx; omega⟩
theorem Is_good (k : Nat) (L : List Ent) (s : Nat) (rv : Value) (w : World) (hS : StL w s L) (hR : RowE w rv L) (hG : GoodK k L) (hk : k ≤ 60000) :
    Calls Tryd.prog 16 #[.pointer (some ⟨s, 0, none⟩), rv] w (Same' w (.bool true)) := Is_any L s rv w hS hR (hG.good hk) hG.names (by have := hG.len; omega)
structure ToR (w : World) (N : Nat) (ys : List CV) (v4 v5 : Value) : Prop where
  own4 : w.ownsRow 0 38 7 v4 N (ys.flatMap CV.cells)
  own5 : w.ownsRow 0 42 7 v5 N (ys.flatMap CV.cells)
  len : ys.length = N
theorem ToR.fr0 {w w' : World} {N : Nat} {ys : List CV} {v4 v5 : Value} (h : ToR w N ys v4 v5) (hf : Fr Nothing w w') : ToR w' N ys v4 v5 := ⟨own_fr h.own4 hf (fun _ _ x => x), own_fr h.own5 hf (fun _ _ x => x), h.len⟩
theorem ToR.row {w w' : World} {N : Nat} {ys : List CV} {v4 v5 v : Value} {e : TypeId} {size n : Nat} {xs : List Value} (h : ToR w N ys v4 v5) (ho : w.ownsRow 0 e size v n xs) (hf : Fr (Rows1 v) w w') (h1 : e ≠ 38) (h2 : e ≠ 42) : ToR w' N ys v4 v5 :=
  ⟨own_fr h.own4 hf (fun g hk hr => own_types ho h.own4 h1 g hr hk), own_fr h.own5 hf (fun g hk hr => own_types ho h.own5 h2 g hr hk), h.len⟩
theorem ToR.cl4 {w : World} {N c4 : Nat} {A4 : Option Addr} {ys : List CV} {v5 : Value} (h : ToR w N ys (.slice A4 N c4) v5) : CL w (fun _ => True) A4 N ys := ⟨(Rd.of_own h.own4).any, h.len⟩
theorem ToR.cl5 {w : World} {N c5 : Nat} {A5 : Option Addr} {ys : List CV} {v4 : Value} (h : ToR w N ys v4 (.slice A5 N c5)) : CL w (fun _ => True) A5 N ys := ⟨(Rd.of_own h.own5).any, h.len⟩
def Toed (w : World) (N : Nat) (ys : List CV) (e : Ending) (w' : World) : Prop := ∃ A4 c4 A5 c5, e = .returned (.tuple #[.slice A4 N c4, .slice A5 N c5]) ∧ Fr Nothing w w' ∧ ToR w' N ys (.slice A4 N c4) (.slice A5 N c5)
theorem To_cl (n : Nat) (xs : List CV) (A : Option Addr) (c0 : Nat) (S : Nat → Prop) (w : World) (hD : CL w S A n xs) (hn : n ≤ 9223372036854775807) :
    Calls Tryd.prog 14 #[.slice A n c0] w (Toed w (min n 24) (fillC xs n)) := by
  have HYL : (fillC xs n).length = min n 24 := by rw [fillC, List.length_map, List.length_take, hD.len]; omega
  refine (To_any n xs A c0 S w hD hn).mono ?_
  rintro e w2 ⟨v4, v5, rfl, h4, h5⟩
  obtain ⟨A4, n4, c4, rfl, H4, _⟩ := own_slice h4.own
  obtain ⟨A5, n5, c5, rfl, H5, _⟩ := own_slice h5.own
  obtain rfl : n4 = min n 24 := H4.out
  obtain rfl : n5 = min n 24 := H5.out
  exact ⟨A4, c4, A5, c5, rfl, h4.fr0, h4.own, h5.own, HYL⟩

set_option maxRecDepth 100000 in
set_option maxHeartbeats 4000000 in
theorem StateApplies_any (n : Nat) (xs : List CV) (A : Option Addr) (c0 : Nat) (S : Nat → Prop) (n2 : Nat) (ys : List CV) (A2 : Option Addr) (c2 : Nat) (S2 : Nat → Prop) (w : World) (hD : CL w S A n xs) (hn : n ≤ 9223372036854775807) (hD2 : CL w S2 A2 n2 ys) (hn2 : n2 ≤ 9223372036854775807) (hU : UsaT w) :
    Calls Tryd.prog 6 #[.slice A n c0, .slice A2 n2 c2] w (TrueNew w) := by
  have HU := Lib.hid hU
  have CK : Hid (∀ w', Fr Nothing w w' → Calls Tryd.prog 12 #[] w' (Same' w' (.bool true))) := fun w' hf => known_any w' (HU.out.fr0 hf)
  have GF : Hid (GoodK 24 (fillL xs n)) := fillL_good xs n hD.len
  have CF : Hid (∀ w', Fr Nothing w w' → Calls Tryd.prog 17 #[.slice A n c0] w' (Filled w' (fillL xs n))) := fun w' hf => fill_any n xs A c0 S w' (hD.fr0 hf) hn (HU.out.fr0 hf)
  have CT : Hid (∀ w', Fr Nothing w w' → Calls Tryd.prog 14 #[.slice A2 n2 c2] w' (Toed w' (min n2 24) (fillC ys n2))) := fun w' hf => To_cl n2 ys A2 c2 S2 w' (hD2.fr0 hf) hn2
  have HX := Lib.hid (fillC_small ys n2)
  have HYL : Hid ((fillC ys n2).length = min n2 24) := by simp only [Hid]; rw [fillC, List.length_map, List.length_take, hD2.len]; omega
  have HN24 : Hid (min n2 24 ≤ 24) := by simp only [Hid]; omega
  clear hD hn hU hD2 hn2
  generalize fillL xs n = L at *
  generalize fillC ys n2 = zs at *
  generalize min n2 24 = N at *
  go_enter Tryd.func6, Tryd.ntmps6
  go_wp2_with fail
  refine (CK.out _ (Fr.refl _ _)).mono ?_
  rintro e w1 ⟨rfl, f1⟩
  have F1 := Lib.hid f1
  clear f1
  go_wp2_with fail
  refine (CF.out _ F1.out).mono ?_
  rintro e w2 ⟨s, rv, rfl, f2, hS, hR⟩
  have F2 := Lib.hid (F1.out.trans f2)
  have HS := Lib.hid hS
  have HR := Lib.hid hR
  clear f2 hS hR F1
  go_wp2_with fail
  refine (CT.out _ F2.out).mono ?_
  rintro e w3 ⟨A4, c4, A5, c5, rfl, f3, tr⟩
  have F3 := Lib.hid (F2.out.trans f3)
  have HS3 := Lib.hid (HS.out.fr0 f3)
  have HR3 := Lib.hid (HR.out.fr0 f3)
  have D4 := Lib.hid tr.cl4
  have D5 := Lib.hid tr.cl5
  clear f3 tr HS HR F2
  go_wp2_with fail
  refine (Apply_any L zs N 24 A4 c4 _ s _ HS3.out (HU.out.fr0 F3.out) GF.out D4.out HX.out (by have := HN24.out; omega)).mono ?_
  rintro e w4 ⟨p, q, rfl, f4, hcase⟩
  have HCA := Lib.hid hcase
  have F4 := Lib.hid f4
  clear f4 hcase
  go_wp2_with fail
  refine (rApply_any L zs N 24 A5 c5 _ rv _ (HR3.out.fr0 F4.out) GF.out (D5.out.fr0 F4.out) HX.out (by have := HN24.out; omega)).mono ?_
  rintro e w5 ⟨p2, q2, rfl, f5, hcase2⟩
  have F5 := Lib.hid f5
  have HS5 := Lib.hid ((HS3.out.fr0 F4.out).fr0 f5)
  have HR5 := Lib.hid ((HR3.out.fr0 F4.out).fr0 f5)
  have FA := Lib.hid ((F3.out.trans F4.out).trans f5)
  clear f5 HS3 HR3 D4 D5
  rcases HCA.out with ⟨o, rfl, s', rfl, hs'⟩ | ⟨⟨c, hc, ho⟩, rfl, rfl⟩
  · have hs2 := Lib.hid (hs'.fr0 F5.out)
    clear hs' HCA
    rcases hcase2 with ⟨_, rfl, hr'⟩ | ⟨⟨c', hc', ho'⟩, _, _⟩
    · have hr2 := Lib.hid hr'
      have GR := Lib.hid (runC_good zs L 24 GF.out HX.out o)
      clear hr' o
      go_wp2_with fail
      refine (Is_good 24 L s rv _ HS5.out HR5.out GF.out (by omega)).mono ?_
      rintro e w6 ⟨rfl, f6⟩
      have F6 := Lib.hid f6
      clear f6
      go_wp2_with fail
      refine (Is_good _ (runC zs L) s' p2 _ (hs2.out.fr0 F6.out) (hr2.out.fr0 F6.out) GR.out (by have := HYL.out; have := HN24.out; omega)).mono ?_
      rintro e w7 ⟨rfl, f7⟩
      have F7 := Lib.hid f7
      clear f7
      go_wp2
      go_ret
      exact ⟨rfl, (FA.out.trans F6.out).trans F7.out⟩
    · exact absurd (o c' hc') (by rw [ho']; decide)
  · rcases hcase2 with ⟨o2, _, _⟩ | ⟨_, rfl, rfl⟩
    · exact absurd (o2 c hc) (by rw [ho]; decide)
    · clear HCA hc ho
      go_wp2_with fail
      refine (Is_good 24 L s rv _ HS5.out HR5.out GF.out (by omega)).mono ?_
      rintro e w6 ⟨rfl, f6⟩
      have F6 := Lib.hid f6
      clear f6
      go_wp2
      go_ret
      exact ⟨rfl, FA.out.trans F6.out⟩
end Go.Proofs.YtpnchdgplpdefaaDoor
