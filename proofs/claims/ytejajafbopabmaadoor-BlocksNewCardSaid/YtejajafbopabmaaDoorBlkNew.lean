/- The walk of BlocksNew. -/
import Derived.Test.YtejajafbopabmaaDoorBlkM
import Derived.Test.YtejajafbopabmaaDoorBlkW
import Derived.Test.YtejajafbopabmaaDoorOpen
import Derived.ProofKit
import Derived.OpenShut
namespace Go.Proofs.YtejajafbopabmaaDoor
open Go.RowKit Go.ChangeShapes Go.WideShapes Go.ChangeAt

theorem openInts {H : Type} {enc : TypeId × Value → H} {w : World} {fuel : Nat} {a : Option Addr} {len cap : Nat} {x : DataW H × List MemPlace}
    (h : DataW.trod enc Tryd.prog w 0 (fun _ => true) true fuel 26 [.slice a len cap] = some x) :
    ∃ l : List Int, Rd w (Old w) 1 a len (l.map (Value.int .i64)) ∧ (∀ z ∈ l, -9223372036854775808 ≤ z ∧ z ≤ 9223372036854775807) ∧ len ≤ cap ∧ cap ≤ 9223372036854775807 := by
  rcases open_ints Tryd.underlying26 Tryd.underlying3 (by kernel_rfl) h with ⟨hcs, _⟩ | ⟨x, l, c, zs, hcs, _, hl, hm, hz, _, hcell, hwz⟩
  · simp at hcs
    obtain ⟨rfl, rfl, rfl⟩ := hcs
    exact ⟨[], Rd.none_, by simp, Nat.le_refl _, Nat.zero_le _⟩
  · simp at hcs
    obtain ⟨rfl, rfl, rfl⟩ := hcs
    have hz' : zs.length = cap := by simpa using hz
    refine ⟨zs.take len, ⟨by simp; omega, fun hn => ⟨x, rfl, ?_, fun j u hu => ?_⟩⟩, fun z hzm => ?_, hl, by unfold maxLen at hm; exact hm⟩
    · have := World.block_lt_of_cell? w _ (hcell 0 (by omega))
      rw [block_of_add] at this
      exact this
    · rw [List.getElem?_map] at hu
      cases hj : (zs.take len)[j]? with
      | none => simp [hj] at hu
      | some z =>
        rw [hj] at hu
        simp only [Option.map_some, Option.some.injEq] at hu
        have hjl : j < (zs.take len).length := (List.getElem?_eq_some_iff.1 hj).1
        have hjz : j < zs.length := by simp at hjl; omega
        have hze : zs[j]? = some z := by rw [List.getElem?_take] at hj; split at hj; exact hj; cases hj
        rw [hcell j hjz, List.getD_eq_getElem?_getD, hze, Option.getD_some, ← hu]
    · have := bounds_i64 (hwz z (List.mem_of_mem_take hzm))
      exact ⟨this.1, by omega⟩

set_option maxRecDepth 100000 in
set_option maxHeartbeats 4000000 in
theorem BlocksNew_any (f n : Int) (A : Option Addr) (m cap : Nat) (us : List Int) (w : World) (S : Nat → Prop) (hr : Rd w S 1 A m (us.map (Value.int .i64))) (hus : ∀ z ∈ us, -9223372036854775808 ≤ z ∧ z ≤ 9223372036854775807) (tc : TabC w) :
    Calls Tryd.prog 9 #[.int .i64 f, .int .i64 n, .slice A m cap] w (TrueNew w) := by
  have HR := Lib.hid hr
  have HU := Lib.hid hus
  have HT := Lib.hid tc
  have h3 : 2 ≤ w.heap.size := TabAt.size3 tc
  clear hr hus tc
  have KN := Lib.hid (fun w' (hf : Fr Nothing w w') => known_any w' (HT.out.fr0 hf) (Nat.le_trans h3 hf.size))
  by_cases h50 : 50 < m
  · go_enter Tryd.func9, Tryd.ntmps9
    go_wp2_with fail
    refine (KN.out _ (Fr.refl _ _)).mono ?_
    rintro e w1 ⟨rfl, hf1⟩
    have F1 := Lib.hid hf1
    clear hf1
    have d1 : (50 : Int) < (m : Int) := by omega
    go_wp2_with fail
    refine (KN.out _ F1.out).mono ?_
    rintro e w2 ⟨rfl, hf2⟩
    have F2 := Lib.hid (F1.out.trans hf2)
    clear hf2
    go_wp2
    go_ret
    exact ⟨rfl, F2.out⟩
  · have d1 : decide ((50 : Int) < (m : Int)) = false := by simp; omega
    by_cases h300 : 300 < n ∧ n ≤ 65536
    · obtain ⟨d2, d3⟩ := h300
      go_enter Tryd.func9, Tryd.ntmps9
      go_wp2_with fail
      refine (KN.out _ (Fr.refl _ _)).mono ?_
      rintro e w1 ⟨rfl, hf1⟩
      have F1 := Lib.hid hf1
      clear hf1
      go_wp2_with fail
      refine (KN.out _ F1.out).mono ?_
      rintro e w2 ⟨rfl, hf2⟩
      have F2 := Lib.hid (F1.out.trans hf2)
      clear hf2
      go_wp2
      go_ret
      exact ⟨rfl, F2.out⟩
    · have hd : decide (300 < n) = false ∨ (decide (300 < n) = true ∧ decide (n ≤ 65536) = false) := by
        by_cases a : 300 < n
        · exact .inr ⟨by simpa using a, by simp; omega⟩
        · exact .inl (by simpa using a)
      by_cases hbad : f < 0 ∨ 1073741824 < f ∨ n < 1 ∨ 65536 < n
      · clear h300
        rcases hd with d2 | ⟨d2, d3⟩
        all_goals
          go_enter Tryd.func9, Tryd.ntmps9
          go_wp2_with fail
          refine (KN.out _ (Fr.refl _ _)).mono ?_
          rintro e w1 ⟨rfl, hf1⟩
          have F1 := Lib.hid hf1
          clear hf1
          go_wp2_with fail
          refine (New_bad f n _ hbad).mono ?_
          rintro e w2 ⟨rfl, hf2⟩
          have F2 := Lib.hid (F1.out.trans hf2)
          clear hf2
          go_wp2_with fail
          refine (rNew_bad f n _ hbad).mono ?_
          rintro e w3 ⟨rfl, hf3⟩
          have F3 := Lib.hid (F2.out.trans hf3)
          clear hf3
          unfold zeroM
          go_wp2_with fail
          refine (Load_bad f n A m cap _ hbad).mono ?_
          rintro e w4 ⟨rfl, hf4⟩
          have F4 := Lib.hid ((F3.out.alloc _).trans hf4)
          clear hf4
          go_wp2_with fail
          refine (rLoad_bad f n A m cap _ hbad).mono ?_
          rintro e w5 ⟨rfl, hf5⟩
          have F5 := Lib.hid (F4.out.trans hf5)
          clear hf5
          unfold zeroM
          go_wp2
          go_ret
          exact ⟨rfl, F5.out.alloc _⟩
      · obtain ⟨ff, rfl⟩ := Int.eq_ofNat_of_zero_le (show 0 ≤ f by omega)
        obtain ⟨nn, rfl⟩ := Int.eq_ofNat_of_zero_le (show 0 ≤ n by omega)
        have hf : ff ≤ 1073741824 := by omega
        have h1 : 1 ≤ nn := by omega
        have hn : nn ≤ 65536 := by omega
        have d2 : decide ((300 : Int) < (nn : Int)) = false := by simp; omega
        have hm50 : m ≤ 50 := by omega
        clear hbad h300 hd h50
        go_enter Tryd.func9, Tryd.ntmps9
        go_wp2_with fail
        refine (KN.out _ (Fr.refl _ _)).mono ?_
        rintro e w1 ⟨rfl, hf1⟩
        have F1 := Lib.hid hf1
        clear hf1
        go_wp2_with fail
        refine (New_ok ff nn _ hf h1 hn (Nat.le_trans h3 F1.out.size)).mono ?_
        rintro e w2 ⟨g, b, c, rfl, hm2, hf2, _, _⟩
        have F2 := Lib.hid (F1.out.trans hf2)
        have M2 := Lib.hid hm2
        clear hf2 hm2
        go_wp2_with fail
        refine (rNew_ok ff nn _ hf h1 hn).mono ?_
        rintro e w3 ⟨b2, c2, rfl, hr3, hf3⟩
        have fa : Fr Nothing w2 (w3.alloc (.cells #[.int .i64 ff, .slice (some ⟨b2, 0, none⟩) nn c2] 28)) := hf3.alloc _
        have F3 := Lib.hid (F2.out.trans fa)
        have M3 := Lib.hid (M2.out.fr0 fa)
        have R3 := Lib.hid (hr3.fr0 ((Fr.refl _ w3).alloc (.cells #[.int .i64 ff, .slice (some ⟨b2, 0, none⟩) nn c2] 28)))
        have X3 := Lib.hid (Blk.new w3 28 #[.int .i64 ff, .slice (some ⟨b2, 0, none⟩) nn c2])
        clear hr3 hf3 fa M2
        unfold mv
        go_wp2_with fail
        generalize w3.heap.size = X at *
        generalize (w3.alloc (.cells #[.int .i64 ff, .slice (some ⟨b2, 0, none⟩) nn c2] 28)) = W3 at *
        refine (Load_any ff nn A m cap us _ S (HR.out.fr0 F3.out) hf h1 hn (by omega) (Nat.le_trans h3 F3.out.size)).mono ?_
        rintro e w4 hl4
        have HL4 := Lib.hid hl4
        clear hl4
        obtain ⟨L, hL⟩ : ∃ L, L = loadR ff nn (List.replicate nn 0) us := ⟨_, rfl⟩
        have CR := Lib.hid (fun w' (hf' : Fr Nothing W3 w') => rLoad_any ff nn A m cap us w' S (HR.out.fr0 (F3.out.trans hf')) HU.out hf h1 hn (by omega))
        rw [← hL] at HL4 CR
        clear hL
        obtain ⟨er, l⟩ := L
        by_cases h0 : er = 0
        · subst h0
          obtain ⟨g', b', c', rfl, hM4⟩ := HL4.out.1 rfl
          have M4 := Lib.hid hM4
          clear hM4 HL4
          go_wp2_with fail
          refine (CR.out _ M4.out.fr).mono ?_
          rintro e w5 ⟨hr5, _⟩
          obtain ⟨b5, c5, rfl, hR5, hf5⟩ := hr5 rfl
          have fb : Fr Nothing w4 (w5.alloc (.cells #[.int .i64 ff, .slice (some ⟨b5, 0, none⟩) nn c5] 28)) := hf5.alloc _
          have F5 := Lib.hid (M4.out.fr.trans fb)
          have M5 := Lib.hid (M4.out.fr0 fb)
          have R5 := Lib.hid (hR5.fr0 ((Fr.refl _ w5).alloc (.cells #[.int .i64 ff, .slice (some ⟨b5, 0, none⟩) nn c5] 28)))
          have X5 := Lib.hid (Blk.new w5 28 #[.int .i64 ff, .slice (some ⟨b5, 0, none⟩) nn c5])
          clear hr5 hR5 hf5 fb CR M4
          have CS := Lib.hid (Same_true g b c ff nn b2 c2 (List.replicate nn 0) _ (M3.out.fr0 F5.out) (R3.out.fr0 F5.out))
          obtain ⟨x0, x1, _, _⟩ := (X3.out.fr F5.out (fun x => x)).two
          unfold mv at CS ⊢
          go_wp2_with fail
          refine CS.out.mono ?_
          rintro e w6 ⟨rfl, hf6⟩
          have F6 := Lib.hid hf6
          have CS2 := Lib.hid (Same_true g' b' c' ff nn b5 c5 l _ (M5.out.fr0 hf6).m (R5.out.fr0 hf6))
          obtain ⟨y0, y1, _, _⟩ := (X5.out.fr hf6 (fun x => x)).two
          unfold mv at CS2
          clear hf6 CS x0 x1
          go_wp2_with fail
          refine CS2.out.mono ?_
          rintro e w7 ⟨rfl, hf7⟩
          have F7 := Lib.hid (((F3.out.trans F5.out).trans F6.out).trans hf7)
          clear hf7 CS2
          go_wp2
          go_ret
          exact ⟨rfl, F7.out⟩
        · obtain ⟨rfl, hf4⟩ := HL4.out.2 h0
          have F4 := Lib.hid hf4
          clear hf4 HL4
          go_wp2_with fail
          refine (CR.out _ F4.out).mono ?_
          rintro e w5 ⟨_, hr5⟩
          obtain ⟨rfl, hf5⟩ := hr5 h0
          have fb : Fr Nothing W3 (w5.alloc (.cells #[.int .i64 0, .slice none 0 0] 28)) := (F4.out.trans hf5).alloc _
          have F5 := Lib.hid fb
          clear hr5 hf5 fb CR
          have CS := Lib.hid (Same_true g b c ff nn b2 c2 (List.replicate nn 0) _ (M3.out.fr0 F5.out) (R3.out.fr0 F5.out))
          obtain ⟨x0, x1, _, _⟩ := (X3.out.fr F5.out (fun x => x)).two
          have t1 : (er != er) = false := by simp
          have t2 : (er != 0) = true := by simpa using h0
          unfold mv at CS
          unfold zeroM
          clear h0
          go_wp2_with fail
          refine CS.out.mono ?_
          rintro e w6 ⟨rfl, hf6⟩
          have F6 := Lib.hid ((F3.out.trans F5.out).trans hf6)
          clear hf6 CS
          go_wp2
          go_ret
          exact ⟨rfl, F6.out⟩
end Go.Proofs.YtejajafbopabmaaDoor
