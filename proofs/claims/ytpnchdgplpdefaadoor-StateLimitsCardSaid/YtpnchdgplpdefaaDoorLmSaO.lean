/- State: the list of a state's nodes (written by genSaO.py). -/
import Derived.Test.YtpnchdgplpdefaaDoorLmSaN
namespace Go.Proofs.YtpnchdgplpdefaaDoor
open Go.RowKit Go.Shelf
attribute [local go_sem] Oper.semAt_some
def ptrsW {w : World} (ys : List (NdW w)) : List Value := ys.map (fun y => ptrN y.1)
def Listed (w : World) (t : Tr) (r : Ending) (w' : World) : Prop := ∃ v, ∃ L : List Nd, r = .returned v ∧ Grew 83 1 w (.slice none 0 0) w' v t.size (L.map ptrN) ∧ L.map (fun x : Nd => (x.nm, x.v)) = t.toL ∧ ∀ x ∈ L, NdAt w' x
set_option maxRecDepth 100000 in
set_option maxHeartbeats 2000000 in
theorem list_any (s : Nat) (t : Tr) (w : World) (hS0 : StH w s t) (hz0 : t.size ≤ 1048576) : Calls Tryd.prog 44 #[.pointer (some ⟨s, 0, none⟩)] w (fun r w' => Listed w t r w') := by
  obtain ⟨i0, hi0, hz0', hz1, hz2⟩ := info_parts infoNdP
  have CN := Lib.hid (fun w => nodes_any (some ⟨s, 0, none⟩) w)
  have HZ := Lib.hid hz0
  have HS := Lib.hid hS0
  clear hS0 hz0
  refine (callsIn_wide (n := 6)).1 (callsIn_of_wp_marks Tryd.func44 rfl trivial (wpIn_wide.2 ?_) rfl)
  simp only [Tryd.ntmps44, List.size_toArray, List.length_cons, List.length_nil, Nat.reduceAdd, Nat.reduceSub, Array.replicate_succ, Array.replicate_zero, List.push_toArray, List.append_toArray, List.nil_append, List.cons_append]
  have CL0 : Hid (Calls Tryd.prog 33 #[.pointer (some ⟨s, 0, none⟩)] w (SameW w (.int .i64 (t.size : Nat)))) := Len_any w s t HS.out
  go_wp2_with fail
  refine CL0.out.mono ?_
  rintro e wz ⟨rfl, rfl⟩
  have hz := HZ.out
  clear CL0
  go_wp2_with (at_make; refine wpList_make_own _ rfl _ _ 94 rfl 0 83 i0 (.pointer none) 1 Tryd.underlying94 hi0 hz0' hz1 _ _ _ t.size rfl rfl rfl ?c1 ?c2 (Nat.zero_le _) ?_)
  case c1 => rw [hz2]; omega
  case c2 => unfold maxLen; omega
  intro wa ra ga
  have FA : Hid (Fr Nothing w wa) := (Fr.grown ga).mono (fun _ _ e => by cases e)
  have RA := Lib.hid ra
  have SZa : Hid (w.heap.size < wa.heap.size) := own_lt ra rfl
  have SZ0 : Sz w w.heap.size := Nat.le_refl _
  clear ra ga hz
  generalize w.heap.size = g0 at *
  go_wp2_with (refine wpList_allocBlk rfl 94 rfl (.slice none 0 0) zvNds #[.slice none 0 0] rfl ?_)
  intro wb nb
  have FB : Hid (Fr Nothing w wb) := FA.out.trans nb.fr
  have RB := Lib.hid (own_fr RA.out nb.fr (fun _ _ x => x))
  have BB := Lib.hid nb.blk
  have SZ1 : Sz w wa.heap.size := FA.out.size
  have NE : Hid (g0 < wa.heap.size) := SZa.out
  clear nb FA RA SZa
  generalize wa.heap.size = g2 at *
  go_wp2_with (refine wpList_store1 rfl 94 (.tmp 3) _ rfl g2 (.slice (some ⟨g0, 0, none⟩) 0 t.size) rfl rfl rfl _ _ BB.out infoNds ?_)
  intro w2 b2 f2
  have B2 := Lib.hid b2
  have F2 : Hid (Fr Nothing w w2) := FB.out.then_ f2 (fun i hi e => by have e' : i = g2 := e; have := SZ1; unfold Sz at this; omega)
  have O2 := Lib.hid (own_fr RB.out f2 (fun k hk e => by
    have e' : k = g2 := e
    simp [Value.ownBlock] at hk
    have := NE.out
    omega))
  have OL : Hid (∀ k, (Value.slice (some ⟨g0, 0, none⟩) 0 t.size).ownBlock = some k → w.heap.size ≤ k ∧ k ≠ g2) := fun k hk => by
    simp [Value.ownBlock] at hk
    subst hk
    exact ⟨SZ0, by have := NE.out; omega⟩
  clear b2 f2 FB RB BB
  go_wp2_with fail
  refine (CN.out _).mono ?_
  rintro r w3 ⟨rfl, f3, b3⟩
  have F3 := Lib.hid (F2.out.trans f3)
  have B3 := Lib.hid (B2.out.fr f3 (fun x => x))
  have O3 := Lib.hid (own_fr O2.out f3 (fun _ _ x => x))
  have G3 := Lib.hid b3
  have LT : Hid (g2 < w3.heap.size) := B3.out.lt
  clear f3 b3 F2 B2 O2
  generalize w2.heap.size = gs at *
  obtain ⟨a3, hs3, hn3⟩ := HS.out.fr0 F3.out
  obtain ⟨L, hL⟩ := Ord.of hn3
  have LL := Lib.hid hL.toL
  have LZ : Hid (L.length = t.size) := by
    have h := congrArg List.length LL.out
    have h2 : L.length = t.size := by simpa [Tr.toL_length] using h
    exact h2
  have HO := Lib.hid hL
  have HS3 := Lib.hid hs3
  clear hs3 hn3 hL
  go_wp2_with fail
  refine (wpIn_wide (n := 6)).1 ?_
  refine wpIn_rangeFunc_ownG rfl (by omega) (gf := 72) (lb := #[.pointer (some ⟨gs, 0, none⟩)]) rfl trivial (enters_of Tryd.func72 (by kernel_rfl) rfl)
    (nodes_stops 5 gs s a3 t w3 L HO.out G3.out HS3.out) (fun h k => h.trans k) (fun W l o o' _ ho hc _ => KN.put W l o o' ho hc) (Below.refl _ _) (fun _ => rfl)
    (RowI w w3 g2 94 83 1 (fun ys : List (NdW w3) => ys.length) (ptrsW (w := w3))) (fun _ _ _ => False) (RowI.ownFrom LT.out F3.out.size) (fun _ _ _ _ _ h _ _ => h.elim)
    ⟨F3.out, KN.refl _, _, B3.out, O3.out, OL.out⟩ ?a1 ?assign ?body ?done ?stop
  case assign =>
    intro l x W K hK
    gi_wp2
    exact hK
  case body =>
    rintro l' pre x W hI hlt
    have HI := Lib.hid hI
    have HL := Lib.hid hlt
    obtain ⟨_, hkn, ⟨v, b11, hrow, hlies⟩⟩ := hI
    obtain ⟨A1, m1, c1, rfl, H1, H2⟩ := own_slice hrow
    have HROW := Lib.hid hrow
    have HLI := Lib.hid hlies
    have B11 := Lib.hid b11
    have c11 := b11.cell 0
    simp only [List.getElem?_toArray, List.getElem?_cons_zero] at c11
    have MX := Lib.hid (x.2.kn hkn).mid
    obtain ⟨⟨gx, nx, vx⟩, hx⟩ := x
    simp only at MX ⊢
    clear b11 hrow hlies hlt hkn
    gi_wp2_with (refine wpListIn_round1 (opLoads 94) rfl (by kernel_rfl) ?_)
    go_wp2_with (at_builtin; refine wpList_app1 _ rfl _ _ 94 rfl 83 i0 (.pointer none) 1 8 Tryd.underlying94 hi0 hz0' hz1 hz2 rfl (by omega) _ _ _ rfl HROW.out 1 _ _ rfl rfl rfl ?e1 ?e2 (by omega) ?_)
    case e1 => simp [Value.oneCell']
    case e2 => have := HL.out; have := LZ.out; have := HZ.out; omega
    intro v2 y2 hG
    have KG := Lib.hid hG
    clear hG
    have B11y : Hid (Blk y2 g2 94 #[.slice A1 m1 c1]) := B11.out.fr KG.out.fr (fun e => (HLI.out _ e).2 rfl)
    obtain ⟨A2, m2, c2, rfl, _, _⟩ := own_slice KG.out.own
    go_wp2_with (refine wpList_store1 rfl 94 (.tmp 3) _ rfl g2 (.slice A2 m2 c2) rfl rfl rfl _ _ B11y.out infoNds ?_)
    intro y3 b3 f3
    refine ⟨?_, rfl⟩
    have KG' : Grew 83 1 W (.slice A1 m1 c1) y2 (.slice A2 m2 c2) ((pre ++ [(⟨⟨gx, nx, vx⟩, hx⟩ : NdW w3)]).length) (ptrsW (pre ++ [(⟨⟨gx, nx, vx⟩, hx⟩ : NdW w3)])) := by
      have h := KG.out
      rw [List.length_append, ptrsW, List.map_append]
      exact h
    have KEY := RowI.step (v := .slice A1 m1 c1) (v2 := .slice A2 m2 c2) HI.out LT.out F3.out.size SZ1 (by decide) (by decide) B11.out HROW.out HLI.out (Fr.refl _ _) KG' f3 b3
    exact ⟨KEY.1, KEY.2.1, KEY.2.2⟩
  case done =>
    rintro D xs W hD rfl hI hK
    obtain ⟨hf, hkn, ⟨v, b11, hrow, hlies⟩⟩ := hI
    obtain ⟨A1, m1, c1, rfl, H1, H2⟩ := own_slice hrow
    have PF : Fr (fun k => some k = some D) W (W.putObj D (.deferred none)) := Fr.grown (grownBy_putObj' W D _)
    have KD := Lib.hid hK
    have JF : Hid (Fr Nothing w (W.putObj D (.deferred none))) := hf.then_ PF (fun i hi e => by have e' : i = D := (by simpa using e); have := F3.out.size; have := hD; omega)
    have JK : Hid (KN w3 (W.putObj D (.deferred none))) := hkn.trans (KN.put W D _ _ hK rfl)
    have KO : Hid ((W.putObj D (.deferred none)).ownsRow 0 83 1 (.slice A1 m1 c1) ((fun ys : List (NdW w3) => ys.length) xs) ((ptrsW (w := w3)) xs)) :=
      own_fr hrow PF (fun k hk e => by
            have e' : k = D := by simpa using e
            subst e'
            obtain ⟨c, f, ho⟩ := own_block hrow hk
            rw [KD.out] at ho
            cases ho)
    have HLI : Hid (∀ k, (Value.slice A1 m1 c1).ownBlock = some k → w.heap.size ≤ k) := fun k hk => (hlies k hk).1
    have c11 := b11.cell 0
    simp only [List.getElem?_toArray, List.getElem?_cons_zero] at c11
    clear PF hf b11 hrow hlies hD hK hkn
    go_wp2
    refine ⟨by simp, .inl ⟨_, _, rfl, run_takeDeferred KD.out, ?_⟩⟩
    refine ⟨_, results_tmp Tryd.results44 _ _ _, ?_⟩
    refine ⟨_, xs.map (·.1), rfl, ⟨?_, JF.out.weak, fun k hk => .inr (HLI.out k hk)⟩, ?_, fun x hx => ?_⟩
    · have h := KO.out
      rw [LZ.out] at h
      rw [List.map_map]
      exact h
    · rw [List.map_map]
      exact LL.out
    · obtain ⟨y, _, rfl⟩ := List.mem_map.1 hx
      exact y.2.kn JK.out
  case stop =>
    rintro D cd pre W hD _ h
    exact h.elim
end Go.Proofs.YtpnchdgplpdefaaDoor
