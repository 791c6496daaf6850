/- 'most', and the first half of the laws CodecRoundTrip and CodecTruncated. -/
import Derived.Test.YtfopfhdijdefiaaReadQ
import Derived.Test.YtfopfhdijdefiaaCodecX
namespace Go.Proofs.Ytfopfhdijdefiaa
open Go.RowKit

def mostK (l : List VV) (k : Nat) : List VV := (l.take k).map VV.mostV
def mostL (l : List VV) : List VV := l.map VV.mostV
theorem mostK_snoc (l : List VV) (k : Nat) (v : VV) (h : l[k]? = some v) : mostK l (k + 1) = mostK l k ++ [v.mostV] := by
  have hk : k < l.length := (List.getElem?_eq_some_iff.1 h).1
  have he : l[k] = v := (List.getElem?_eq_some_iff.1 h).2
  unfold mostK
  rw [List.take_succ_eq_append_getElem hk, he]
  simp
theorem mostK_length (l : List VV) (k : Nat) : (mostK l k).length ≤ k := by simp [mostK]; omega

set_option maxRecDepth 100000 in
set_option maxHeartbeats 1000000 in
theorem most_any (A : Option Addr) (n c : Nat) (l : List VV) (w : World) (S : Nat → Prop) (hr : Rd w S 5 A n (vcells l)) (hok : ∀ v ∈ l, v.ok) (hn : n ≤ 1000) :
    Calls Try.prog 28 #[.slice A n c] w (SomeGrewV w (mostL l)) := by
  obtain ⟨i0, hi, hz0, hz1, hz2⟩ := info_parts info_V
  have hlen : l.length = n := by have := hr.1; rw [vcells_length] at this; omega
  have HL := Lib.hid hlen
  clear hlen
  have HR := Lib.hid hr
  have HK := Lib.hid hok
  clear hr hok
  go_enter Try.func28, Try.ntmps28
  go_wp2
  go_loopw [3, 4] (fun v' i wr => ∃ k : Nat, k ≤ n ∧ i = .int .i64 k ∧ GrewV w (.slice none 0 0) wr v' (mostK l k)) (fun _ i _ => n - (intOf i).toNat)
  case atStart => exact ⟨0, Nat.zero_le _, rfl, Grew.start (World.ownsRow_nil _ _ _ _)⟩
  case round =>
    obtain ⟨k, hk, rfl, hf⟩ := hrel
    have HF := Lib.hid hf
    clear hf
    by_cases hlt : k < n
    · obtain ⟨v, hv⟩ : ∃ v, l[k]? = some v := ⟨_, List.getElem?_eq_getElem (by rw [HL.out]; exact hlt)⟩
      obtain ⟨ad, rfl, _, hc⟩ := HR.out.vat hv
      have HV := Lib.hid hv
      have hvo := HK.out v (List.mem_of_getElem? hv)
      have hvs := hvo.s
      have hkind := hvo.kind
      have hw : ∀ j u, v.cells[j]? = some u → wr.cell? ((ad.add (k * 5)).add j) = some u := fun j u hu => HF.out.fr0.cellSome (hc j u hu) (fun x => x)
      have c0 : wr.cell? (ad.add (k * 5)) = _ := hw 0 _ rfl
      have c1 : wr.cell? ⟨(ad.add (k * 5)).block, (ad.add (k * 5)).off + 1, none⟩ = _ := hw 1 _ rfl
      have c2 : wr.cell? ⟨(ad.add (k * 5)).block, (ad.add (k * 5)).off + 2, none⟩ = _ := hw 2 _ rfl
      have c3 : wr.cell? ⟨(ad.add (k * 5)).block, (ad.add (k * 5)).off + 3, none⟩ = _ := hw 3 _ rfl
      have c4 : wr.cell? ⟨(ad.add (k * 5)).block, (ad.add (k * 5)).off + 4, none⟩ = _ := hw 4 _ rfl
      have hml := mostK_length l k
      clear hc hw hv hvo
      by_cases h3 : v.kind % 4 = 3
      · have t3 : ((v.kind : Int) % 4 == 3) = true := beq_iff_eq.2 (by omega)
        have H3 := Lib.hid h3
        clear h3
        go_wp2_with (at_builtin; refine wpList_app1 _ rfl _ _ 32 rfl 47 i0 _ 5 48 Try.underlying32 hi hz0 hz1 hz2 rfl (by omega) _ _ _ rfl (HF.out.own.alloc _) 1 _ _ (by simp) rfl rfl (by simp [Value.oneCell']) (by omega) (by omega) ?_)
        intro v2 w2 hg2
        have HG : Hid (GrewV w (.slice none 0 0) w2 v2 (mostK l (k + 1))) := by
          have := (HF.out.behind ((Fr.refl _ _).alloc _)).trans hg2
          rw [mostK_snoc l k v HV.out]
          simp only [Hid, GrewV, vcells_snoc, List.length_append, List.length_singleton]
          rw [show v.mostV.cells = [.int .u8 v.kind, .int .i64 v.n, .bool v.is, .string v.s, .int .i64 (v.s.size : Int)] by simp only [VV.mostV, VV.cells]; rw [if_pos H3.out]]
          exact this
        clear hg2 HF
        go_wp2
        go_roundw
        case rel => exact ⟨k + 1, by omega, by go_num, HG.out⟩
        case measure => simp [intOf]; omega
      · have t3 : ((v.kind : Int) % 4 == 3) = false := beq_eq_false_iff_ne.2 (by omega)
        have H3 := Lib.hid h3
        clear h3
        go_wp2_with (at_builtin; refine wpList_app1 _ rfl _ _ 32 rfl 47 i0 _ 5 48 Try.underlying32 hi hz0 hz1 hz2 rfl (by omega) _ _ _ rfl (HF.out.own.alloc _) 1 _ _ (by simp) rfl rfl (by simp [Value.oneCell']) (by omega) (by omega) ?_)
        intro v2 w2 hg2
        have HG : Hid (GrewV w (.slice none 0 0) w2 v2 (mostK l (k + 1))) := by
          have := (HF.out.behind ((Fr.refl _ _).alloc _)).trans hg2
          rw [mostK_snoc l k v HV.out]
          simp only [Hid, GrewV, vcells_snoc, List.length_append, List.length_singleton]
          rw [show v.mostV.cells = [.int .u8 v.kind, .int .i64 v.n, .bool v.is, .string v.s, .int .i64 v.n] by simp only [VV.mostV, VV.cells]; rw [if_neg H3.out]]
          exact this
        clear hg2 HF
        go_wp2
        go_roundw
        case rel => exact ⟨k + 1, by omega, by go_num, HG.out⟩
        case measure => simp [intOf]; omega
    · have HE : Hid (mostK l k = mostL l) := by
        simp only [Hid, mostL, mostK]
        rw [List.take_of_length_le (by rw [HL.out]; omega)]
      go_wp2
      go_ret
      exact ⟨_, rfl, by rw [← HE.out]; exact HF.out⟩

theorem mostL_mem (l : List VV) (h : ∀ v ∈ l, v.ok ∧ v.s.size ≤ 200) : ∀ v ∈ mostL l, v.ok ∧ v.s.size ≤ 200 ∧ v.most = if v.kind % 4 = 3 then (v.s.size : Int) else v.n := by
  intro v hv
  simp only [mostL, List.mem_map] at hv
  obtain ⟨u, hu, rfl⟩ := hv
  obtain ⟨ho, hs⟩ := h u hu
  refine ⟨⟨ho.kind, ho.n1, ho.n2, ho.s, ?_, ?_⟩, hs, rfl⟩
  · simp only [VV.mostV]
    have := ho.n1
    split <;> omega
  · simp only [VV.mostV]
    have := ho.n2
    split <;> omega
end Go.Proofs.Ytfopfhdijdefiaa
