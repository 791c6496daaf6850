/- The contracts of blocks.Map's Number, Take, Give, change, Commit, Abort. -/
import Derived.Test.YtejajafbopabmaaDoorBlkA
import Derived.Test.YtejajafbopabmaaDoorShelf
import Derived.StillTailTactics
namespace Go.Proofs.YtejajafbopabmaaDoor
open Go.RowKit

def ints (l : List UInt8) : List Int := l.map fun b => (b.toNat : Int)
theorem bytesOf_ints (l : List UInt8) : Lib.bytesOf (ints l) = l := by
  unfold Lib.bytesOf ints
  rw [List.map_map]
  conv => rhs; rw [← List.map_id l]
  apply List.map_congr_left
  intro b _
  simp
theorem add_zero_off (b i : Nat) : (⟨b, 0, none⟩ : Addr).add i = ⟨b, i, none⟩ := by unfold Addr.add; split <;> simp_all

section
variable {w w' : World} {g b c f n : Nat} {l : List UInt8} {T : Nat → Prop}
theorem BM.ints (h : BM w g b c f n l) : ∀ i, i < n → w.cell? ((⟨b, 0, none⟩ : Addr).add i) = some (.int .u8 ((ints l).getD i 0)) := fun i hi => by
  rw [add_zero_off, h.at_ hi]
  have : i < l.length := by rw [h.len]; exact hi
  simp [Go.Proofs.YtejajafbopabmaaDoor.ints, byteAt, this]
end

def numL (l : List UInt8) (s : Int) : Nat := if 0 ≤ s ∧ s < 4 then l.count (UInt8.ofNat s.toNat) else 0

set_option maxHeartbeats 1000000 in
theorem Number_any (g b c f n : Nat) (l : List UInt8) (s : Int) (w : World) (h : BM w g b c f n l) :
    Calls Tryd.prog 20 #[.pointer (some ⟨g, 0, none⟩), .int .i64 s] w (Gives w (.int .i64 (numL l s : Nat))) := by
  by_cases h0 : 0 ≤ s
  · by_cases h4 : s < 4
    · have e : numL l s = l.count (UInt8.ofNat s.toNat) := if_pos ⟨h0, h4⟩
      rw [e]
      obtain ⟨x, rfl⟩ := Int.eq_ofNat_of_zero_le h0
      have HB := Lib.hid h
      have c1 := h.c1
      clear h e
      go_enter Tryd.func20, Tryd.ntmps20
      go_wp2_with fail
      refine (Tryd.bytes_Count_one_at ⟨b, 0, none⟩ n c _ _ _ (ints l) (x : Int) _ (by rw [← HB.out.len]; simp [ints]) (HB.out.fr0 ((Fr.refl _ _).alloc _)).ints (by simp)).mono ?_
      rintro e w1 ⟨rfl, rfl⟩
      go_wp2
      go_ret
      refine ⟨ret_int ?_, (Fr.refl _ _).alloc _⟩
      rw [bytesOf_ints]
      rfl
    · have e : numL l s = 0 := if_neg (by omega)
      rw [e]
      clear h e
      go_enter Tryd.func20, Tryd.ntmps20
      go_wp2
      go_ret
      exact ⟨rfl, Fr.refl _ _⟩
  · have e : numL l s = 0 := if_neg (by omega)
    rw [e]
    clear h e
    go_enter Tryd.func20, Tryd.ntmps20
    go_wp2
    go_ret
    exact ⟨rfl, Fr.refl _ _⟩

set_option maxHeartbeats 1000000 in
theorem Number_nil (s : Int) (w : World) : Calls Tryd.prog 20 #[.pointer none, .int .i64 s] w (Gives w (.int .i64 0)) := by
  go_enter Tryd.func20, Tryd.ntmps20
  go_wp2
  go_ret
  exact ⟨rfl, Fr.refl _ _⟩

set_option maxHeartbeats 1000000 in
theorem Take_any (g b c f n : Nat) (l : List UInt8) (w : World) (h : BM w g b c f n l) :
    Calls Tryd.prog 24 #[.pointer (some ⟨g, 0, none⟩)] w (GivesT (One b) w (.tuple #[.int .i64 (takeB f l), .int .i64 (takeE l)]) (fun w' => BM w' g b c f n (takeL l))) := by
  have hlt := freeI_lt l
  have hge := freeI_ge l
  rw [h.len] at hlt
  have HB := Lib.hid h
  have c0 := h.c0
  have c1 := h.c1
  have hf := h.hf
  have hn := h.hn
  have E1 : Hid (Lib.indexByte l 0 = freeI l) := rfl
  by_cases h0 : 0 ≤ freeI l
  · have e1 : Hid (takeB f l = (f : Int) + freeI l ∧ takeE l = 0 ∧ takeL l = l.set (freeI l).toNat 2) := ⟨if_pos h0, if_pos h0, if_pos h0⟩
    obtain ⟨i, hi⟩ := Int.eq_ofNat_of_zero_le h0
    rw [hi] at e1 E1 hlt
    clear h0 hge hi
    have c2 := h.at_ (k := i) (by omega)
    have f2 := h.free i
    clear h
    go_enter Tryd.func24, Tryd.ntmps24
    go_wp2_with fail
    refine (Tryd.bytes_IndexByte_at ⟨b, 0, none⟩ n c (ints l) _ _ (by rw [← HB.out.len]; simp [ints]) HB.out.ints).mono ?_
    rintro e w1 ⟨rfl, rfl⟩
    rw [bytesOf_ints, show (0 : Int).toNat.toUInt8 = 0 from rfl, E1.out]
    have hlt2 : i < n := by omega
    have c3 : (w1.setCell ⟨b, i, none⟩ (.int .u8 2)).cell? ⟨g, 0, none⟩ = some (.int .i64 f) := (HB.out.set i 2 (by decide)).c0
    go_wp2
    go_ret2
    refine ⟨?_, fr_set, ?_⟩
    · rw [e1.out.1, e1.out.2.1]
      rfl
    · rw [e1.out.2.2]
      exact HB.out.set i 2 (by decide)
  · have e1 : Hid (takeB f l = 0 ∧ takeE l = 26 ∧ takeL l = l) := ⟨if_neg h0, if_neg h0, if_neg h0⟩
    have hi : freeI l = -1 := by omega
    rw [hi] at E1
    clear h h0 hge hlt hi
    go_enter Tryd.func24, Tryd.ntmps24
    go_wp2_with fail
    refine (Tryd.bytes_IndexByte_at ⟨b, 0, none⟩ n c (ints l) _ _ (by rw [← HB.out.len]; simp [ints]) HB.out.ints).mono ?_
    rintro e w1 ⟨rfl, rfl⟩
    rw [bytesOf_ints, show (0 : Int).toNat.toUInt8 = 0 from rfl, E1.out]
    go_wp2
    go_ret2
    refine ⟨?_, Fr.refl _ _, ?_⟩
    · rw [e1.out.1, e1.out.2.1]; rfl
    · rw [e1.out.2.2]
      exact HB.out

set_option maxHeartbeats 1000000 in
theorem Take_nil (w : World) : Calls Tryd.prog 24 #[.pointer none] w (Gives w (.tuple #[.int .i64 0, .int .i64 1])) := by
  go_enter Tryd.func24, Tryd.ntmps24
  go_wp2
  go_ret2
  exact ⟨rfl, Fr.refl _ _⟩

set_option maxRecDepth 100000 in
set_option maxHeartbeats 1000000 in
theorem Give_in (g b c f n : Nat) (l : List UInt8) (i : Nat) (k : Int) (w : World) (h : BM w g b c f n l) (hk : k = (f : Int) + (i : Int)) (hi : i < n) :
    Calls Tryd.prog 30 #[.pointer (some ⟨g, 0, none⟩), .int .i64 k] w (GivesT (One b) w (.int .i64 (giveE f l k)) (fun w' => BM w' g b c f n (giveL f l k))) := by
  have h0 : isIn f l.length k = true := by rw [h.len]; exact isIn_yes (by omega) (by omega)
  have hix : (k - (f : Int)).toNat = i := by omega
  subst hk
  have h1 := h.hf
  have h2 := h.hn
  have HB := Lib.hid h
  have hb4 := byteAt_lt h.o4 i
  have go2 : ∀ (u : UInt8) (w1 : World), u.toNat < 4 → Fr Nothing w w1 → Fr (One b) w (w1.drew.setCell ⟨b, i, none⟩ (.int .u8 (u.toNat : Nat))) ∧ BM (w1.drew.setCell ⟨b, i, none⟩ (.int .u8 (u.toNat : Nat))) g b c f n (l.set i u) := fun u w1 hu hf =>
    ⟨(hf.drew.weak).trans fr_set, (HB.out.fr0 hf.drew).set i u hu⟩
  have G2 := Lib.hid go2
  clear go2
  by_cases hx1 : byteAt l i = 1
  · have E : Hid (giveE f l ((f : Int) + (i : Int)) = 0 ∧ giveL f l ((f : Int) + (i : Int)) = l.set i 3) := by
      simp only [Hid]; unfold giveE giveL; rw [h0, hix, hx1]; exact ⟨rfl, rfl⟩
    clear h0 hix h
    go_enter Tryd.func30, Tryd.ntmps30
    go_wp2_with fail
    refine (State_in g b c f n l i _ _ HB.out rfl hi).mono ?_
    rintro e w1 ⟨rfl, hf1⟩
    have HF := Lib.hid hf1
    have HB1 := Lib.hid (HB.out.fr0 hf1.drew)
    have c0 := HB1.out.c0
    have c1 := HB1.out.c1
    have c2 := HB1.out.at_ hi
    have f2 := HB1.out.free i
    have a1 : IntKind.i64.wrap ((f : Int) + (i : Int) - (f : Int)) = (i : Int) := (IntWalk.i64_in _ (by omega)).trans (by omega)
    have a2 : (i : Int) < (n : Int) := by omega
    clear hf1
    rw [hx1]
    clear hx1 hb4
    go_wp2
    go_still_tail 11, (by kernel_rfl)
    change wpList _ _ _ _ _ w1.drew
    go_wp2
    go_ret
    exact ⟨by rw [E.out.1]; rfl, by rw [E.out.2]; exact G2.out 3 w1 (by decide) HF.out⟩
  · by_cases hx2 : byteAt l i = 2
    · have E : Hid (giveE f l ((f : Int) + (i : Int)) = 0 ∧ giveL f l ((f : Int) + (i : Int)) = l.set i 0) := by
        simp only [Hid]; unfold giveE giveL; rw [h0, hix, hx2]; exact ⟨rfl, rfl⟩
      clear h0 hix h
      go_enter Tryd.func30, Tryd.ntmps30
      go_wp2_with fail
      refine (State_in g b c f n l i _ _ HB.out rfl hi).mono ?_
      rintro e w1 ⟨rfl, hf1⟩
      have HF := Lib.hid hf1
      have HB1 := Lib.hid (HB.out.fr0 hf1.drew)
      have c0 := HB1.out.c0
      have c1 := HB1.out.c1
      have c2 := HB1.out.at_ hi
      have f2 := HB1.out.free i
      have a1 : IntKind.i64.wrap ((f : Int) + (i : Int) - (f : Int)) = (i : Int) := (IntWalk.i64_in _ (by omega)).trans (by omega)
      have a2 : (i : Int) < (n : Int) := by omega
      clear hf1
      rw [hx2]
      clear hx1 hx2 hb4
      go_wp2
      go_still_tail 11, (by kernel_rfl)
      change wpList _ _ _ _ _ w1.drew
      go_wp2
      go_ret
      exact ⟨by rw [E.out.1]; rfl, by rw [E.out.2]; exact G2.out 0 w1 (by decide) HF.out⟩
    · have E : Hid (giveE f l ((f : Int) + (i : Int)) = 10 ∧ giveL f l ((f : Int) + (i : Int)) = l) := by
        simp only [Hid]; unfold giveE giveL; rw [h0, hix, if_pos rfl, if_neg hx1, if_neg hx2, if_pos rfl, if_neg hx1, if_neg hx2]; exact ⟨rfl, rfl⟩
      clear h0 hix h
      go_enter Tryd.func30, Tryd.ntmps30
      go_wp2_with fail
      refine (State_in g b c f n l i _ _ HB.out rfl hi).mono ?_
      rintro e w1 ⟨rfl, hf1⟩
      have HF := Lib.hid hf1
      have t1 : (((byteAt l i : Nat) : Int) == 1) = false := beq_eq_false_iff_ne.2 (by omega)
      have t2 : (((byteAt l i : Nat) : Int) == 2) = false := beq_eq_false_iff_ne.2 (by omega)
      clear hf1 hx1 hx2
      generalize byteAt l i = x at *
      go_wp2
      go_ret
      exact ⟨by rw [E.out.1]; rfl, HF.out.weak, by rw [E.out.2]; exact HB.out.fr0 HF.out⟩

set_option maxHeartbeats 1000000 in
theorem Give_any (g b c f n : Nat) (l : List UInt8) (k : Int) (w : World) (h : BM w g b c f n l) :
    Calls Tryd.prog 30 #[.pointer (some ⟨g, 0, none⟩), .int .i64 k] w (GivesT (One b) w (.int .i64 (giveE f l k)) (fun w' => BM w' g b c f n (giveL f l k))) := by
  rcases in_cases f n k with hk | ⟨i, hk, hi⟩
  · have E : Hid (giveE f l k = 2 ∧ giveL f l k = l) := by simp only [Hid]; unfold giveE giveL; rw [h.len, hk]; exact ⟨rfl, rfl⟩
    have HB := Lib.hid h
    clear h
    go_enter Tryd.func30, Tryd.ntmps30
    go_wp2_with fail
    refine (State_out g b c f n l _ _ HB.out hk).mono ?_
    rintro e w1 ⟨rfl, hf1⟩
    have HF := Lib.hid hf1
    clear hf1
    go_wp2
    go_ret
    exact ⟨by rw [E.out.1]; rfl, HF.out.weak, by rw [E.out.2]; exact HB.out.fr0 HF.out⟩
  · exact Give_in g b c f n l i k w h hk hi

set_option maxHeartbeats 1000000 in
theorem Give_nil (k : Int) (w : World) : Calls Tryd.prog 30 #[.pointer none, .int .i64 k] w (Gives w (.int .i64 1)) := by
  go_enter Tryd.func30, Tryd.ntmps30
  go_wp2_with fail
  refine (State_nil _ _).mono ?_
  rintro e w1 ⟨rfl, hf1⟩
  go_wp2
  go_ret
  exact ⟨rfl, hf1⟩
end Go.Proofs.YtejajafbopabmaaDoor
