/- The reference's maps of blocks: contracts of Give, change, Commit, Abort, List, Same. -/
import Derived.Test.YtejajafbopabmaaDoorBlkS
namespace Go.Proofs.YtejajafbopabmaaDoor
open Go.RowKit

def mGive (f : Nat) (l : List UInt8) (k : Int) (v : Value) : Value := .tuple #[v, .int .i64 (giveE f l k)]

set_option maxRecDepth 100000 in
set_option maxHeartbeats 1000000 in
theorem rGive_any (f b c n : Nat) (l : List UInt8) (k : Int) (w : World) (h : RM w b c n l) (hf : f ≤ 1073741824) (hk1 : -9223372036854775808 ≤ k) (hk2 : k ≤ 9223372036854775807) :
    Calls Tryd.prog 47 #[mv f b c n, .int .i64 k] w (SomeM w f n (giveL f l k) (mGive f l k)) := by
  have hn := h.hn
  have hlen := h.len
  have HT := Lib.hid (two_new w (.int .i64 f) (.slice (some ⟨b, 0, none⟩) n c))
  have HR := Lib.hid (h.fr0 HT.out.2.2)
  clear h
  rcases in_cases f n k with hk | ⟨i, hk, hi⟩
  · have E : Hid (giveE f l k = 2 ∧ giveL f l k = l) := by simp only [Hid]; unfold giveE giveL; rw [hlen, hk]; exact ⟨rfl, rfl⟩
    have HC := Lib.hid (rState_out f b c n k ((w.alloc (.cells #[.int .i64 f, .slice (some ⟨b, 0, none⟩) n c] 28)).alloc (.cells #[.int .i64 0, .slice none 0 0] 28)) hk hf hn hk1 hk2)
    unfold mv at HC ⊢
    clear hlen hk
    go_enter Tryd.func47, Tryd.ntmps47
    go_wp2_with fail
    refine HC.out.mono ?_
    rintro e w1 ⟨rfl, hf1⟩
    have hA := HT.out.1.fr hf1 (fun x => x)
    have hB := HT.out.2.1.fr hf1 (fun x => x)
    have HB := Lib.hid hB
    have HF := Lib.hid (HT.out.2.2.trans hf1)
    have HR1 := Lib.hid (HR.out.fr0 hf1)
    obtain ⟨c0, c1, _, _⟩ := hA.two
    obtain ⟨g0, g1, g2, g3⟩ := hB.two
    clear hf1 hA hB HC
    go_wp2
    obtain ⟨⟨m0, m1⟩, q2, q3⟩ := ret_M (f := f) HB.out HR1.out HF.out (Nat.le_succ _)
    exact bodyPost_ret (v := mGive f l k (mv f b c n)) (by simp [results, Tryd.results47, go_sem, mGive, mv, m0, m1, E.out.1]) rfl ⟨b, c, rfl, by rw [E.out.2]; exact q2, q3⟩
  · have h0 : isIn f l.length k = true := by rw [hlen]; exact isIn_yes (by omega) (by omega)
    have hix : (k - (f : Int)).toNat = i := by omega
    have HC := Lib.hid (rState_in f b c n l i k ((w.alloc (.cells #[.int .i64 f, .slice (some ⟨b, 0, none⟩) n c] 28)).alloc (.cells #[.int .i64 0, .slice none 0 0] 28)) HR.out hk hi hf)
    have HW := Lib.hid (fun (s : UInt8) w' (hr : RM w' b c n l) => with_any f b c n l i k s w' hr hk hi hf)
    unfold mv at HC HW ⊢
    by_cases hx1 : byteAt l i = 1
    · have E : Hid (giveE f l k = 0 ∧ giveL f l k = l.set i 3) := by
        simp only [Hid]; unfold giveE giveL; rw [h0, hix, hx1]; exact ⟨rfl, rfl⟩
      rw [hx1] at HC
      clear h0 hix hx1 hlen hk
      go_enter Tryd.func47, Tryd.ntmps47
      go_wp2_with fail
      refine HC.out.mono ?_
      rintro e w1 ⟨rfl, hf1⟩
      have hA := HT.out.1.fr hf1 (fun x => x)
      have HB := Lib.hid (HT.out.2.1.fr hf1 (fun x => x))
      have HF := Lib.hid (HT.out.2.2.trans hf1)
      have HR1 := Lib.hid (HR.out.fr0 hf1)
      obtain ⟨c0, c1, _, _⟩ := hA.two
      clear hf1 hA HC
      go_wp2_with fail
      refine (HW.out 3 _ HR1.out).mono ?_
      rintro e w2 ⟨b2, k2, rfl, hr2, hf2⟩
      have HB2 := Lib.hid (HB.out.fr hf2 (fun x => x))
      obtain ⟨g0, g1, g2, g3⟩ := HB2.out.two
      have HR2 := Lib.hid hr2
      have HF2 := Lib.hid (HF.out.trans hf2)
      clear hr2 hf2
      unfold mv
      go_wp2
      obtain ⟨⟨m0, m1⟩, q2, q3⟩ := ret_M (f := f) HB2.out HR2.out HF2.out (Nat.le_succ _)
      exact bodyPost_ret (v := mGive f l k (mv f b2 k2 n)) (by simp [results, Tryd.results47, go_sem, mGive, mv, m0, m1, E.out.1]) rfl ⟨b2, k2, rfl, by rw [E.out.2]; exact q2, q3⟩
    · by_cases hx2 : byteAt l i = 2
      · have E : Hid (giveE f l k = 0 ∧ giveL f l k = l.set i 0) := by
          simp only [Hid]; unfold giveE giveL; rw [h0, hix, hx2]; exact ⟨rfl, rfl⟩
        rw [hx2] at HC
        clear h0 hix hx1 hx2 hlen hk
        go_enter Tryd.func47, Tryd.ntmps47
        go_wp2_with fail
        refine HC.out.mono ?_
        rintro e w1 ⟨rfl, hf1⟩
        have hA := HT.out.1.fr hf1 (fun x => x)
        have HB := Lib.hid (HT.out.2.1.fr hf1 (fun x => x))
        have HF := Lib.hid (HT.out.2.2.trans hf1)
        have HR1 := Lib.hid (HR.out.fr0 hf1)
        obtain ⟨c0, c1, _, _⟩ := hA.two
        clear hf1 hA HC
        go_wp2_with fail
        refine (HW.out 0 _ HR1.out).mono ?_
        rintro e w2 ⟨b2, k2, rfl, hr2, hf2⟩
        have HB2 := Lib.hid (HB.out.fr hf2 (fun x => x))
        obtain ⟨g0, g1, g2, g3⟩ := HB2.out.two
        have HR2 := Lib.hid hr2
        have HF2 := Lib.hid (HF.out.trans hf2)
        clear hr2 hf2
        unfold mv
        go_wp2
        obtain ⟨⟨m0, m1⟩, q2, q3⟩ := ret_M (f := f) HB2.out HR2.out HF2.out (Nat.le_succ _)
        exact bodyPost_ret (v := mGive f l k (mv f b2 k2 n)) (by simp [results, Tryd.results47, go_sem, mGive, mv, m0, m1, E.out.1]) rfl ⟨b2, k2, rfl, by rw [E.out.2]; exact q2, q3⟩
      · have E : Hid (giveE f l k = 10 ∧ giveL f l k = l) := by
          simp only [Hid]; unfold giveE giveL; rw [h0, hix, if_pos rfl, if_neg hx1, if_neg hx2, if_pos rfl, if_neg hx1, if_neg hx2]; exact ⟨rfl, rfl⟩
        have t1 : (((byteAt l i : Nat) : Int) == 1) = false := beq_eq_false_iff_ne.2 (by omega)
        have t2 : (((byteAt l i : Nat) : Int) == 2) = false := beq_eq_false_iff_ne.2 (by omega)
        clear h0 hix hx1 hx2 hlen hk HW
        generalize byteAt l i = x at *
        go_enter Tryd.func47, Tryd.ntmps47
        go_wp2_with fail
        refine HC.out.mono ?_
        rintro e w1 ⟨rfl, hf1⟩
        have hA := HT.out.1.fr hf1 (fun x => x)
        have hB := HT.out.2.1.fr hf1 (fun x => x)
        have HB := Lib.hid hB
        have HF := Lib.hid (HT.out.2.2.trans hf1)
        have HR1 := Lib.hid (HR.out.fr0 hf1)
        obtain ⟨c0, c1, _, _⟩ := hA.two
        obtain ⟨g0, g1, g2, g3⟩ := hB.two
        clear hf1 hA hB HC
        go_wp2
        obtain ⟨⟨m0, m1⟩, q2, q3⟩ := ret_M (f := f) HB.out HR1.out HF.out (Nat.le_succ _)
        exact bodyPost_ret (v := mGive f l k (mv f b c n)) (by simp [results, Tryd.results47, go_sem, mGive, mv, m0, m1, E.out.1]) rfl ⟨b, c, rfl, by rw [E.out.2]; exact q2, q3⟩

/-- What the reference makes of a state. -/
def rtab (x y : Nat) (s : Nat) : Nat := if s = 2 then x else if s = 3 then y else s

theorem Grew.store {e t : TypeId} {w w2 : World} {v2 : Value} {m : Nat} {ys : List Value} {g i : Nat} {cs : Array Value} (h : Grew e 1 w (.slice none 0 0) w2 v2 m ys) (hb : Blk w2 g t cs) (he : e ≠ t) (hg : w.heap.size ≤ g) (u : Value) :
    Grew e 1 w (.slice none 0 0) (w2.setCell ⟨g, i, none⟩ u) v2 m ys :=
  ⟨own_fr h.own ((Fr.refl (One g) w2).setCell (p := ⟨g, i, none⟩) (fun _ => rfl) u) (fun k hk hT => own_blk_ne h.own hb he (by rw [hk, show k = g from hT])),
   (h.fr0.setCell (p := ⟨g, i, none⟩) (fun hl => by simp at hl; omega) u).weak, h.lies⟩

def chK (t : UInt8 → UInt8) (l : List UInt8) (k : Nat) : List Value := ((l.take k).map t).map ri

set_option maxRecDepth 100000 in
set_option maxHeartbeats 2000000 in
theorem rchange_any (f b c n : Nat) (l : List UInt8) (t : UInt8 → UInt8) (x y : Nat) (w : World) (h : RM w b c n l) (_ : x < 4) (_ : y < 4) (ht : ∀ s : UInt8, (t s).toNat = rtab x y s.toNat) :
    Calls Tryd.prog 65 #[mv f b c n, .int .i64 x, .int .i64 y] w (SomeM w f n (l.map t) (fun v => v)) := by
  obtain ⟨i0, hi0, hz0, hz1, hz2⟩ := info_parts info_int
  have hn := h.hn
  have hlen := h.len
  have HT := Lib.hid (two_new w (.int .i64 f) (.slice (some ⟨b, 0, none⟩) n c))
  have HR := Lib.hid (h.fr0 HT.out.2.2)
  have HTT := Lib.hid ht
  have H1 := Lib.hid h.h1
  have HBB := Lib.hid h.lt
  clear h ht
  unfold mv
  go_enter Tryd.func65, Tryd.ntmps65
  go_wp2
  have hO := Blk.new ((w.alloc (.cells #[.int .i64 f, .slice (some ⟨b, 0, none⟩) n c] 28)).alloc (.cells #[.int .i64 0, .slice none 0 0] 28)) 28 #[.int .i64 f, .slice none 0 0]
  rw [World.size_alloc, World.size_alloc] at hO
  have hA := HT.out.1.alloc (.cells #[.int .i64 f, .slice none 0 0] 28)
  have hB := HT.out.2.1.alloc (.cells #[.int .i64 f, .slice none 0 0] 28)
  have hF := HT.out.2.2.alloc (.cells #[.int .i64 f, .slice none 0 0] 28)
  have hR := HR.out.fr0 ((Fr.refl _ _).alloc (.cells #[.int .i64 f, .slice none 0 0] 28))
  have HA := Lib.hid hA
  have HB := Lib.hid hB
  have HF := Lib.hid hF
  have HO := Lib.hid hO
  have HR2 := Lib.hid hR
  clear hA hB hF hO hR HT HR
  generalize (((w.alloc (.cells #[.int .i64 f, .slice (some ⟨b, 0, none⟩) n c] 28)).alloc (.cells #[.int .i64 0, .slice none 0 0] 28)).alloc (.cells #[.int .i64 f, .slice none 0 0] 28)) = W at *
  generalize hsz : w.heap.size = B at *
  have HSZ := Lib.hid hsz
  clear hsz
  go_loopw [8] (fun i wr => ∃ k : Nat, k ≤ n ∧ i = .int .i64 k ∧ Blk wr B 28 #[.int .i64 f, .slice (some ⟨b, 0, none⟩) n c] ∧ Blk wr (B + 1) 28 #[.int .i64 0, .slice none 0 0] ∧ RM wr b c n l ∧ Hid (∃ v, Blk wr (B + 1 + 1) 28 #[.int .i64 f, v] ∧ Grew 3 1 w (.slice none 0 0) wr v k (chK t l k))) (fun i _ => n - (intOf i).toNat)
  case atStart => exact ⟨0, Nat.zero_le _, rfl, HA.out, HB.out, HR2.out, _, HO.out, ⟨World.ownsRow_nil _ _ _ _, HF.out.weak, fun k hk => .inl hk⟩⟩
  case round =>
    obtain ⟨k, hk, rfl, hA, hB, hR, HV⟩ := hrel
    have KA := Lib.hid hA
    have KB := Lib.hid hB
    have KR := Lib.hid hR
    clear hA hB hR HA HB HR2 HF HO
    obtain ⟨v, hv, hown⟩ := HV.out
    obtain ⟨A1, n1, c1, rfl, _, _⟩ := own_slice hown.own
    have KV := Lib.hid hv
    have KO := Lib.hid hown
    clear HV hv hown
    obtain ⟨c0, c1', _, _⟩ := KA.out.two
    obtain ⟨o0, o1, o2, o3⟩ := KV.out.two
    by_cases hlt : k < n
    · have c2 := KR.out.at_ hlt
      have e1 : (l.take (k + 1)).map t = (l.take k).map t ++ [t (l[k]'(by omega))] := by
        rw [List.take_succ_eq_append_getElem (by omega), List.map_append]
        rfl
      have e2 : (t (l[k]'(by omega))).toNat = rtab x y (byteAt l k) := by
        rw [HTT.out]
        congr 1
        simp [byteAt, show k < l.length by omega]
      have E : Hid (chK t l (k + 1) = chK t l k ++ [.int .i64 (rtab x y (byteAt l k) : Nat)]) := by
        simp only [Hid]
        unfold chK
        rw [e1, List.map_append]
        simp only [List.map_cons, List.map_nil, ri, e2]
      have key : Hid (∀ (v2 : Value) (w2 : World), Grew 3 1 wr (.slice A1 n1 c1) w2 v2 (k + 1) (chK t l k ++ [.int .i64 (rtab x y (byteAt l k) : Nat)]) →
          (w2.cell? ⟨B + 1 + 1, 1, none⟩ = some (.slice A1 n1 c1) ∧ w2.frozen? ⟨B + 1 + 1, 1, none⟩ = false) ∧
          (Blk (w2.setCell ⟨B + 1 + 1, 1, none⟩ v2) B 28 #[.int .i64 f, .slice (some ⟨b, 0, none⟩) n c] ∧ Blk (w2.setCell ⟨B + 1 + 1, 1, none⟩ v2) (B + 1) 28 #[.int .i64 0, .slice none 0 0] ∧ RM (w2.setCell ⟨B + 1 + 1, 1, none⟩ v2) b c n l ∧ Hid (∃ v, Blk (w2.setCell ⟨B + 1 + 1, 1, none⟩ v2) (B + 1 + 1) 28 #[.int .i64 f, v] ∧ Grew 3 1 w (.slice none 0 0) (w2.setCell ⟨B + 1 + 1, 1, none⟩ v2) v (k + 1) (chK t l (k + 1))))) := by
        intro v2 w2 hg
        have hsz := HSZ.out
        have hbb := HBB.out
        have na : ∀ {g : Nat} {cs : Array Value}, Blk wr g 28 cs → ¬ Rows1 (.slice A1 n1 c1) g := fun hb hr => own_blk_ne KO.out.own hb (by decide) hr
        have q1 := KA.out.fr hg.fr (na KA.out)
        have q2 := KB.out.fr hg.fr (na KB.out)
        have q3 := KV.out.fr hg.fr (na KV.out)
        have q4 := KR.out.fr hg.fr (fun hr => by have := KO.out.new b hr; omega)
        have q5 := KO.out.trans hg
        refine ⟨⟨q3.cell 1, q3.frozen 1⟩, q1.far (by simp; omega) _, q2.far (by simp) _, q4.fr ((Fr.refl (One (B + 1 + 1)) w2).setCell (p := ⟨B + 1 + 1, 1, none⟩) (fun _ => rfl) v2) (by simp [One]; omega), v2, by simpa using q3.set_ 1 v2, ?_⟩
        rw [E.out]
        exact q5.store q3 (by decide) (by omega) _
      have hb4 : k + 1 ≤ 65536 := by omega
      clear e1 e2 hlen
      by_cases h2 : byteAt l k = 2
      · have er : rtab x y (byteAt l k) = x := by rw [h2]; rfl
        rw [er] at key
        rw [h2] at c2
        clear er h2
        go_wp2_with (at_builtin; refine wpList_app1 _ rfl _ _ 26 rfl 3 i0 _ 1 8 Tryd.underlying26 hi0 hz0 hz1 hz2 rfl (by omega) _ _ _ rfl KO.out.own 1 _ _ rfl rfl rfl ?a1 (by omega) (by omega) ?_)
        case a1 => simp [Value.oneCell']
        intro v2 w2 hg2
        obtain ⟨⟨p0, p1⟩, P⟩ := key.out v2 w2 hg2
        obtain ⟨A2, n2, c2', rfl, _, _⟩ := own_slice hg2.own
        have KP := Lib.hid P
        clear P key hg2
        go_wp2
        go_roundw
        case rel => exact ⟨k + 1, by omega, by go_num, KP.out⟩
        case measure => simp [intOf]; omega
      · by_cases h3 : byteAt l k = 3
        · have er : rtab x y (byteAt l k) = y := by rw [h3]; rfl
          rw [er] at key
          rw [h3] at c2
          clear er h2 h3
          go_wp2_with (at_builtin; refine wpList_app1 _ rfl _ _ 26 rfl 3 i0 _ 1 8 Tryd.underlying26 hi0 hz0 hz1 hz2 rfl (by omega) _ _ _ rfl KO.out.own 1 _ _ rfl rfl rfl ?a2 (by omega) (by omega) ?_)
          case a2 => simp [Value.oneCell']
          intro v2 w2 hg2
          obtain ⟨⟨p0, p1⟩, P⟩ := key.out v2 w2 hg2
          obtain ⟨A2, n2, c2', rfl, _, _⟩ := own_slice hg2.own
          have KP := Lib.hid P
          clear P key hg2
          go_wp2
          go_roundw
          case rel => exact ⟨k + 1, by omega, by go_num, KP.out⟩
          case measure => simp [intOf]; omega
        · have er : rtab x y (byteAt l k) = byteAt l k := by unfold rtab; rw [if_neg h2, if_neg h3]
          rw [er] at key
          have t2 : (((byteAt l k : Nat) : Int) == 2) = false := beq_eq_false_iff_ne.2 (by omega)
          have t3 : (((byteAt l k : Nat) : Int) == 3) = false := beq_eq_false_iff_ne.2 (by omega)
          clear er h2 h3 E
          generalize byteAt l k = z at *
          go_wp2_with (at_builtin; refine wpList_app1 _ rfl _ _ 26 rfl 3 i0 _ 1 8 Tryd.underlying26 hi0 hz0 hz1 hz2 rfl (by omega) _ _ _ rfl KO.out.own 1 _ _ rfl rfl rfl ?a3 (by omega) (by omega) ?_)
          case a3 => simp [Value.oneCell']
          intro v2 w2 hg2
          obtain ⟨⟨p0, p1⟩, P⟩ := key.out v2 w2 hg2
          obtain ⟨A2, n2, c2', rfl, _, _⟩ := own_slice hg2.own
          have KP := Lib.hid P
          clear P key hg2
          go_wp2
          go_roundw
          case rel => exact ⟨k + 1, by omega, by go_num, KP.out⟩
          case measure => simp [intOf]; omega
    · obtain rfl : k = n := by omega
      have hown := KO.out
      unfold chK at hown
      rw [← hlen, List.take_length, hlen] at hown
      obtain ⟨b2, k2, e2, hb2, hr2⟩ := grewR_form hown H1.out hn
      rw [e2] at KV o1
      obtain ⟨g0, g1, g2, g3⟩ := KB.out.two
      have KF := Lib.hid hown.fr0
      have KR2 := Lib.hid hr2
      clear hown hr2 hlen e2
      go_wp2
      obtain ⟨⟨m0, m1⟩, q2, q3⟩ := ret_M (f := f) KB.out KR2.out KF.out (by have := HSZ.out; omega)
      exact bodyPost_ret (v := mv f b2 k2 k) (by simp [results, Tryd.results65, go_sem, mv, m0, m1]) rfl ⟨b2, k2, rfl, q2, q3⟩

theorem tabC_r (s : UInt8) : (tabC s).toNat = rtab 1 0 s.toNat := by
  unfold tabC rtab
  by_cases h2 : s = 2
  · subst h2; rfl
  · have n2 : ¬ s.toNat = 2 := fun e => h2 (UInt8.toNat.inj (by simpa using e))
    by_cases h3 : s = 3
    · subst h3; rfl
    · have n3 : ¬ s.toNat = 3 := fun e => h3 (UInt8.toNat.inj (by simpa using e))
      rw [if_neg h2, if_neg h3, if_neg n2, if_neg n3]
theorem tabA_r (s : UInt8) : (tabA s).toNat = rtab 0 1 s.toNat := by
  unfold tabA rtab
  by_cases h2 : s = 2
  · subst h2; rfl
  · have n2 : ¬ s.toNat = 2 := fun e => h2 (UInt8.toNat.inj (by simpa using e))
    by_cases h3 : s = 3
    · subst h3; rfl
    · have n3 : ¬ s.toNat = 3 := fun e => h3 (UInt8.toNat.inj (by simpa using e))
      rw [if_neg h2, if_neg h3, if_neg n2, if_neg n3]

set_option maxHeartbeats 1000000 in
theorem rCommit_any (f b c n : Nat) (l : List UInt8) (w : World) (h : RM w b c n l) :
    Calls Tryd.prog 38 #[mv f b c n] w (SomeM w f n (l.map tabC) (fun v => v)) := by
  have HT := Lib.hid (two_new w (.int .i64 f) (.slice (some ⟨b, 0, none⟩) n c))
  have HC := Lib.hid (rchange_any f b c n l tabC 1 0 _ (h.fr0 HT.out.2.2) (by omega) (by omega) tabC_r)
  clear h
  unfold mv at HC ⊢
  go_enter Tryd.func38, Tryd.ntmps38
  go_wp2_with fail
  refine HC.out.mono ?_
  rintro e w1 ⟨b2, k2, rfl, hr2, hf2⟩
  have HB := Lib.hid (HT.out.2.1.fr hf2 (fun x => x))
  obtain ⟨g0, g1, g2, g3⟩ := HB.out.two
  have HR2 := Lib.hid hr2
  have HF2 := Lib.hid (HT.out.2.2.trans hf2)
  clear hr2 hf2 HC
  unfold mv
  go_wp2
  obtain ⟨⟨m0, m1⟩, q2, q3⟩ := ret_M (f := f) HB.out HR2.out HF2.out (Nat.le_succ _)
  exact bodyPost_ret (v := mv f b2 k2 n) (by simp [results, Tryd.results38, go_sem, mv, m0, m1]) rfl ⟨b2, k2, rfl, q2, q3⟩

set_option maxHeartbeats 1000000 in
theorem rAbort_any (f b c n : Nat) (l : List UInt8) (w : World) (h : RM w b c n l) :
    Calls Tryd.prog 48 #[mv f b c n] w (SomeM w f n (l.map tabA) (fun v => v)) := by
  have HT := Lib.hid (two_new w (.int .i64 f) (.slice (some ⟨b, 0, none⟩) n c))
  have HC := Lib.hid (rchange_any f b c n l tabA 0 1 _ (h.fr0 HT.out.2.2) (by omega) (by omega) tabA_r)
  clear h
  unfold mv at HC ⊢
  go_enter Tryd.func48, Tryd.ntmps48
  go_wp2_with fail
  refine HC.out.mono ?_
  rintro e w1 ⟨b2, k2, rfl, hr2, hf2⟩
  have HB := Lib.hid (HT.out.2.1.fr hf2 (fun x => x))
  obtain ⟨g0, g1, g2, g3⟩ := HB.out.two
  have HR2 := Lib.hid hr2
  have HF2 := Lib.hid (HT.out.2.2.trans hf2)
  clear hr2 hf2 HC
  unfold mv
  go_wp2
  obtain ⟨⟨m0, m1⟩, q2, q3⟩ := ret_M (f := f) HB.out HR2.out HF2.out (Nat.le_succ _)
  exact bodyPost_ret (v := mv f b2 k2 n) (by simp [results, Tryd.results48, go_sem, mv, m0, m1]) rfl ⟨b2, k2, rfl, q2, q3⟩

/-- The blocks among the first k, as ints. -/
def blkK (f : Nat) (l : List UInt8) (x y : UInt8) (n k : Nat) : List Int := (pickF l x y n k).map fun i => (f : Int) + (i.1 : Int)
theorem blkK_hit {f : Nat} {l : List UInt8} {x y : UInt8} {n k : Nat} (h : k < n) (hh : hit l x y k = true) : blkK f l x y n (k + 1) = blkK f l x y n k ++ [(f : Int) + (k : Int)] := by
  unfold blkK
  rw [pickF_hit h hh]
  simp
theorem blkK_miss {f : Nat} {l : List UInt8} {x y : UInt8} {n k : Nat} (hh : hit l x y k = false) : blkK f l x y n (k + 1) = blkK f l x y n k := by
  unfold blkK
  rw [pickF_miss hh]
theorem blkK_length (f : Nat) (l : List UInt8) (x y : UInt8) (n k : Nat) : (blkK f l x y n k).length ≤ k := by
  unfold blkK
  rw [List.length_map]
  exact pickF_length l x y n k

set_option maxRecDepth 100000 in
set_option maxHeartbeats 2000000 in
theorem rList_any (f b c n : Nat) (l : List UInt8) (x y : UInt8) (w : World) (h : RM w b c n l) (hf : f ≤ 1073741824) :
    Calls Tryd.prog 45 #[mv f b c n, .int .i64 (x.toNat : Nat), .int .i64 (y.toNat : Nat)] w (SomeGrewI w (blkK f l x y n n)) := by
  obtain ⟨i0, hi0, hz0, hz1, hz2⟩ := info_parts info_int
  have hn := h.hn
  have hB := Blk.new w 28 #[.int .i64 f, .slice (some ⟨b, 0, none⟩) n c]
  have HR := Lib.hid (h.fr0 ((Fr.refl _ w).alloc (.cells #[.int .i64 f, .slice (some ⟨b, 0, none⟩) n c] 28)))
  have HB := Lib.hid hB
  have HBB := Lib.hid h.lt
  clear h hB
  unfold mv
  go_enter Tryd.func45, Tryd.ntmps45
  go_wp2
  have HF : Hid (Fr Nothing w (w.alloc (.cells #[.int .i64 f, .slice (some ⟨b, 0, none⟩) n c] 28))) := (Fr.refl _ _).alloc _
  generalize (w.alloc (.cells #[.int .i64 f, .slice (some ⟨b, 0, none⟩) n c] 28)) = W at *
  generalize hsz : w.heap.size = B at *
  have HSZ := Lib.hid hsz
  clear hsz
  go_loopw [7, 8] (fun v i wr => ∃ k : Nat, k ≤ n ∧ i = .int .i64 k ∧ Blk wr B 28 #[.int .i64 f, .slice (some ⟨b, 0, none⟩) n c] ∧ RM wr b c n l ∧ GrewI w wr v (blkK f l x y n k)) (fun _ i _ => n - (intOf i).toNat)
  case atStart => exact ⟨0, Nat.zero_le _, rfl, HB.out, HR.out, ⟨World.ownsRow_nil _ _ _ _, HF.out.weak, fun k hk => .inl hk⟩⟩
  case round =>
    obtain ⟨k, hk, rfl, hA, hR, hG⟩ := hrel
    obtain ⟨A1, n1, c1, rfl, _, _⟩ := own_slice hG.own
    have KA := Lib.hid hA
    have KR := Lib.hid hR
    have KG := Lib.hid hG
    clear hA hR hG HB HR HF
    obtain ⟨c0, c1', _, _⟩ := KA.out.two
    by_cases hlt : k < n
    · have c2 := KR.out.at_ hlt
      have hpl := blkK_length f l x y n k
      by_cases hh : hit l x y k = true
      · have HH := Lib.hid (blkK_hit (f := f) hlt hh)
        have hcase : (((byteAt l k : Nat) : Int) == ((x.toNat : Nat) : Int)) = true ∨ ((((byteAt l k : Nat) : Int) == ((x.toNat : Nat) : Int)) = false ∧ (((byteAt l k : Nat) : Int) == ((y.toNat : Nat) : Int)) = true) := by
          unfold hit at hh
          simp only [Bool.or_eq_true, beq_iff_eq] at hh
          by_cases e : byteAt l k = x.toNat
          · exact .inl (beq_iff_eq.2 (by omega))
          · exact .inr ⟨beq_eq_false_iff_ne.2 (by omega), beq_iff_eq.2 (by omega)⟩
        have key : Hid (∀ (v2 : Value) (w2 : World), Grew 3 1 wr (.slice A1 n1 c1) w2 v2 ((blkK f l x y n k).length + 1) ((blkK f l x y n k).map (Value.int .i64) ++ [.int .i64 ((f : Int) + (k : Int))]) →
            Blk w2 B 28 #[.int .i64 f, .slice (some ⟨b, 0, none⟩) n c] ∧ RM w2 b c n l ∧ GrewI w w2 v2 (blkK f l x y n (k + 1))) := by
          intro v2 w2 hg
          have hsz := HSZ.out
          have hbb := HBB.out
          refine ⟨KA.out.fr hg.fr (fun hr => own_blk_ne KG.out.own KA.out (by decide) hr), KR.out.fr hg.fr (fun hr => by have := KG.out.new b hr; omega), ?_⟩
          unfold GrewI
          rw [HH.out]
          have := KG.out.trans hg
          simpa using this
        clear hh
        generalize byteAt l k = z at *
        rcases hcase with t1 | ⟨t1, t2⟩
        · go_wp2_with (at_builtin; refine wpList_app1 _ rfl _ _ 26 rfl 3 i0 _ 1 8 Tryd.underlying26 hi0 hz0 hz1 hz2 rfl (by omega) _ _ _ rfl KG.out.own 1 _ _ rfl rfl rfl ?a1 (by omega) (by omega) ?_)
          case a1 => simp [Value.oneCell']
          intro v2 w2 hg2
          have KP := Lib.hid (key.out v2 w2 hg2)
          obtain ⟨A2, n2, c2', rfl, _, _⟩ := own_slice hg2.own
          clear key hg2
          go_wp2
          go_roundw
          case rel => exact ⟨k + 1, by omega, by go_num, KP.out⟩
          case measure => simp [intOf]; omega
        · go_wp2_with (at_builtin; refine wpList_app1 _ rfl _ _ 26 rfl 3 i0 _ 1 8 Tryd.underlying26 hi0 hz0 hz1 hz2 rfl (by omega) _ _ _ rfl KG.out.own 1 _ _ rfl rfl rfl ?a2 (by omega) (by omega) ?_)
          case a2 => simp [Value.oneCell']
          intro v2 w2 hg2
          have KP := Lib.hid (key.out v2 w2 hg2)
          obtain ⟨A2, n2, c2', rfl, _, _⟩ := own_slice hg2.own
          clear key hg2
          go_wp2
          go_roundw
          case rel => exact ⟨k + 1, by omega, by go_num, KP.out⟩
          case measure => simp [intOf]; omega
      · have hh' : hit l x y k = false := by simpa using hh
        have HH := Lib.hid (blkK_miss (f := f) (n := n) hh')
        unfold hit at hh'
        simp only [Bool.or_eq_false_iff, beq_eq_false_iff_ne] at hh'
        have t1 : (((byteAt l k : Nat) : Int) == ((x.toNat : Nat) : Int)) = false := beq_eq_false_iff_ne.2 (by omega)
        have t2 : (((byteAt l k : Nat) : Int) == ((y.toNat : Nat) : Int)) = false := beq_eq_false_iff_ne.2 (by omega)
        clear hh hh'
        generalize byteAt l k = z at *
        go_wp2
        go_roundw
        case rel => exact ⟨k + 1, by omega, by go_num, KA.out, KR.out, by rw [HH.out]; exact KG.out⟩
        case measure => simp [intOf]; omega
    · obtain rfl : k = n := by omega
      go_wp2
      go_ret
      exact ⟨_, rfl, KG.out⟩
end Go.Proofs.YtejajafbopabmaaDoor
