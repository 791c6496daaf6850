/- Steps of the proof of LawPipesLoseNothing: contracts of the functions that the law reaches, for every world that holds what each of them asks. -/
import Derived.Test.YtmpokappjogehaaGreatDoorQAX
import Derived.Test.YtmpokappjogehaaGreatDoorQAV
import Derived.Test.YtmpokappjogehaaGreatDoorQAT
set_option linter.unusedVariables false
set_option linter.unusedSimpArgs false
namespace Go.Proofs.YtmpokappjogehaaGreatDoor
namespace Ev
open Go Go.RowKit

section
variable {X : Type} {T : Itp X} {P : Program} {ρ : Nat → Value} {bl : Nat → List EV → Option EV} {call : Caller X}
variable {ops : Array Oper} {ms : List Nat} {fr0 : Tr EV} {n0 : Nat} {m0 : Mem X} {rs : List (Rc X)} {cf : Cfg X} {σ0 : Sg} {own0 : Ow} {w0 : World} {u0 : Nat → Value}
variable {d : Nat → Bool} {u : Nat → Value} {w w' : World} {s : Nat} {b : Mem X} {σ : Sg} {own : Ow} {BL : Bl} {BI : Nat → Option Nat}
theorem RunD.bs_nx (D : RunD P bl call ops ms fr0 n0 m0 rs cf) : ∀ k, k ≤ ops.size → ∀ x ∈ (cOf rs cf k).bs, x.nx ≤ (cOf rs cf k).nx := by
  intro k
  induction k with
  | zero =>
    intro _ x hx
    rw [D.c0] at hx ⊢
    rw [List.mem_singleton] at hx
    subst hx
    exact Nat.le_refl _
  | succ k ih =>
    intro hk x hx
    obtain ⟨r, hr, hs, _⟩ := D.step k ops[k] (Array.getElem?_eq_getElem (by omega))
    have ih' := ih (by omega)
    rw [cOf_at hr] at ih'
    generalize hC : cOf rs cf (k + 1) = c' at hs hx ⊢
    generalize r.k = kk at hs
    generalize r.v = vv at hs
    cases hs with
    | skip => exact ih' x hx
    | still => exact ih' x hx
    | make => exact Nat.le_succ_of_le (ih' x hx)
    | mark v m hw ht hn =>
      rcases List.mem_append.1 hx with hx | hx
      · exact Nat.le_trans (ih' x hx) hn
      · rw [List.mem_singleton] at hx
        subst hx
        exact Nat.le_refl _
theorem made_in (D : RunD P bl call ops ms fr0 n0 m0 rs cf) {p : Pd X} (hp : p ∈ cf.ap) {i : Nat} (hi : i ≤ ops.size) (hlt : p.op < i) : p ∈ (cOf rs cf i).ap := by
  have ge := D.good ops.size (Nat.le_refl _)
  rw [D.cf_at] at ge
  obtain ⟨r', z1, z2, z3⟩ := ge.apc p hp
  obtain ⟨r'', z4, z5, _⟩ := D.step p.op ops[p.op] (Array.getElem?_eq_getElem (by omega))
  rw [z1] at z4
  injection z4 with z4
  subst z4
  rw [z2] at z5
  have a1 := D.along (i - (p.op + 1)) (p.op + 1) (by omega)
  rw [show p.op + 1 + (i - (p.op + 1)) = i by omega] at a1
  have a2 := D.to_end (show p.op + 1 ≤ ops.size by omega)
  generalize hC : cOf rs cf (p.op + 1) = c' at z5 a1 a2
  generalize r'.v = vv at z5
  cases z5 with
  | make v' ob hw hm =>
    have z6 : (⟨p.op, r'.c.nx, ob⟩ : Pd X) ∈ cf.ap := a2.ap _ (List.mem_cons_self ..)
    have z7 := ge.ids _ z6 p hp (.inr rfl)
    rw [← z7]
    exact a1.ap _ (List.mem_cons_self ..)
/-- What an operation waits for and is not in the memory yet, is among what was pending in the text's order. -/
theorem taken (D : RunD P bl call ops ms fr0 n0 m0 rs cf) {p : Pd X} (hp : p ∈ cf.ap) {i : Nat} {r : Rc X} (hi : i < ops.size) (hr : rs[i]? = some r) (hb : (ms.getD i 0).testBit p.op = true) (hs : r.c.mks.length ≤ hiOf ms p.op cf.mks) : p ∈ r.c.pd := by
  have gi := D.good i (Nat.le_of_lt hi)
  have hin := made_in D hp (Nat.le_of_lt hi) (D.lt hb)
  have toend := D.to_end (Nat.le_of_lt hi)
  rw [cOf_at hr] at gi hin toend
  rcases gi.pa p hin with z | ⟨x, z1, z2⟩
  · exact z
  · obtain ⟨r', hr'⟩ := List.getElem?_of_mem z1
    have hl : r' < r.c.mks.length := (List.getElem?_eq_some_iff.1 hr').1
    have := hiOf_below ms p.op cf.mks r' x (prefix_get toend.mks hr') (by omega)
    rw [this] at z2
    cases z2
theorem avoidR_spec {ids : List Nat} {fr : Tr EV} : ∀ {l : List Nat}, avoidR ids fr l = true → ∀ t ∈ l, ∀ e, fr.get t = some e → EV.avoid ids e = true
  | [], _, t, ht, _, _ => by cases ht
  | x :: l, h, t, ht, e, he => by
    simp only [avoidR, Bool.and_eq_true] at h
    rcases List.mem_cons.1 ht with rfl | ht
    · have h1 := h.1
      rw [he] at h1
      exact h1
    · exact avoidR_spec h.2 t ht e he
/-- One operation, whenever its turn comes. -/
theorem draw_step (hC : CallOk T P ρ call) (hB : BareOk P ρ bl) (D : RunD P bl call ops ms fr0 n0 m0 rs cf) {a : Act} (hF : FRel ρ σ0 fr0 n0 a) (ha : puts (dsts ops) 0 u0 a = a) (hd0 : ∀ i, m0.nx ≤ i → σ0 i = none) {Q : Exit → Act → World → Prop} {i : Nat} {o : Oper} (ho : ops[i]? = some o) (hdi : d i = false)
    (hcl : ∀ j k, d j = true → Region.waitsFor .any ops j k = true → d k = true) (hrd : ∀ k, Region.waitsFor .any ops i k = true → d k = true) (hI : Inv T ρ ms m0 rs cf σ0 own0 w0 u0 d u w) :
    wpW P ops Q o (puts (dsts ops) 0 u a) w (fun a' w'' => ∃ v, a' = (puts (dsts ops) 0 u a).put o.dst v ∧ Inv T ρ ms m0 rs cf σ0 own0 w0 u0 (setB d i) (updV u i v) w'') := by
  obtain ⟨s, b, σ, own, BL, BI, I⟩ := hI
  obtain ⟨r, hr, hst, hlt⟩ := D.step i o ho
  have hi : i < ops.size := (Array.getElem?_eq_some_iff.1 ho).1
  have ge := D.good ops.size (Nat.le_refl _)
  rw [D.cf_at] at ge
  have gi := D.good i (Nat.le_of_lt hi)
  rw [cOf_at hr] at gi
  have toend := D.to_end (Nat.le_of_lt hi)
  rw [cOf_at hr] at toend
  have toend1 := D.to_end (show i + 1 ≤ ops.size by omega)
  have hle0 : Sg.le σ0 σ := fun j p hj => by
    rcases Nat.lt_or_ge j m0.nx with h | h
    · rw [I.ext j h]; exact hj
    · rw [hd0 j h] at hj; cases hj
  have hfrm : FRel ρ (sgG σ BL allG) (keepTr r.c.fr (readsOf ops.toList o)) n0 (puts (dsts ops) 0 u a) :=
    frame_at D hF ha (fun j p hj => I.ex.le allG j p (hle0 j p hj)) hcl ho hr hdi hrd I.val I.ini
  have hhi := hi_bound D I hcl hdi
  have hlo := lo_bound D I hcl hrd
  have hlook := D.look i o r ho hr
  have hmem := List.mem_of_getElem? I.base
  have hbn : b.nx ≤ cf.nx := by
    have := D.bs_nx ops.size (Nat.le_refl _)
    rw [D.cf_at] at this
    exact this b hmem
  generalize hK : r.k = kk at hst
  generalize hV : r.v = vv at hst
  generalize hCi : cOf rs cf (i + 1) = c' at hst toend1
  cases hst with
  | skip hw =>
    refine .inr ⟨want_sound hw hfrm, undef, rfl, s, b, σ, own, BL, BI, I.quiet D (Nat.le_of_lt hi) hr (by rw [hK]; exact ⟨by simp, by simp⟩) (.inr (by rw [hV]; rfl))⟩
  | still v hw =>
    unfold lookR at hlook
    rw [hK] at hlook
    have h1 := stages_spec hlook s (Nat.lt_succ_of_le I.sle) hlo hhi
    simp only [I.base] at h1
    split at h1
    · rename_i v' hsv
      have he := same_eq _ _ h1
      rw [hV] at he
      subst he
      have hfull : HRel T ρ (sgG σ BL allG) (ogG own BI allG) (⟨addP (fun q => (ms.getD i 0).testBit q && Nat.ble s (hiOf ms q cf.mks)) b.h cf.ap, cf.nx⟩ : Mem X) w :=
        I.mem.absorb I.ex allG hbn (fun j p hj _ => by
          obtain ⟨q, q1, q2, _⟩ := I.only j p hj
          rw [← q2]
          exact (ge.ap q q1).2.1) (fun j ob hj => by
          rcases addP_get hj with h2 | ⟨p, q1, q2, q3, q4⟩
          · exact .inl h2
          · rw [Bool.and_eq_true] at q2
            obtain ⟨z, z1, z2⟩ := I.has p q1 ((D.mask i p.op q2.1).ready hcl hrd) (Nat.le_of_ble_eq_true q2.2)
            rw [q3] at z1
            rw [q4] at z2
            exact .inr ⟨rfl, z, z1, z2⟩)
      obtain ⟨x, hx1, hx2⟩ := stillEv_sound (w := w) hsv hfrm hfull
      refine .inl ⟨want_sound hw hfrm, ?_⟩
      unfold Oper.wp
      rw [hx2]
      exact ⟨x, rfl, s, b, σ, own, BL, BI, I.quiet D (Nat.le_of_lt hi) hr (by rw [hK]; exact ⟨by simp, by simp⟩) (by rw [hV]; exact hx1)⟩
    · cases h1
  | make v ob hw hm =>
    have hap : (⟨i, r.c.nx, ob⟩ : Pd X) ∈ cf.ap := toend1.ap _ (List.mem_cons_self ..)
    have hnone : sgG σ BL allG r.c.nx = none := by
      unfold sgG
      cases hb : BL r.c.nx with
      | none => exact I.free _ hap hhi
      | some q =>
        obtain ⟨p, q1, q2, q3, _⟩ := I.only _ q hb
        have := ge.ids p q1 _ hap (.inl q2)
        rw [this] at q3
        have q3' : d i = true := q3
        rw [hdi] at q3'
        cases q3'
    obtain ⟨x, c, w1, h1, h2, h3, h4, h5⟩ := makeEv_sound (T := T) (m := (⟨.nil, r.c.nx⟩ : Mem X)) (own := own) (w := w) hm hfrm hnone
    unfold lookR at hlook
    rw [hK] at hlook
    simp only [hm] at hlook
    have hids : ∀ j, j ∉ idsOf (fun q => Nat.ble (loOf (ms.getD i 0) cf.mks 0 0) (hiOf ms q cf.mks)) cf.ap → ((sgG σ BL allG).add r.c.nx (w.heap.size, c)) j = σ j := fun j hj => by
      unfold Sg.add
      rw [if_neg (fun e => hj (by rw [e]; exact idsOf_mem hap (Nat.ble_eq_true_of_le (Nat.le_trans hlo hhi))))]
      unfold sgG
      cases hb : BL j with
      | none => rfl
      | some q =>
        obtain ⟨p, q1, q2, _, q4⟩ := I.only j q hb
        exact absurd (by rw [← q2]; exact idsOf_mem q1 (Nat.ble_eq_true_of_le (Nat.le_trans hlo q4))) hj
    have hxr : XRel ρ σ (w.heap.size, c) w1 ob := by
      cases ob with
      | cells t cs =>
        obtain ⟨b', c', vs, e1, _, e3, e4⟩ := h5
        rw [Sg.add_same] at e1
        injection e1 with e1
        injection e1 with e1 e2
        subst e1
        exact ⟨vs, by rw [← avoids_conc hids cs hlook]; exact e3, e4⟩
      | row t sz cs =>
        obtain ⟨b', c', vs, full, e1, _, e3, e4, e5, e6⟩ := h5
        rw [Sg.add_same] at e1
        injection e1 with e1
        injection e1 with e1 e2
        subst e1 e2
        exact ⟨vs, full, by rw [← avoids_conc hids cs hlook]; exact e3, e4, e5, e6⟩
      | brow z =>
        obtain ⟨b', c', full, t, fz, e1, _, e3, e4, e5⟩ := h5
        rw [Sg.add_same] at e1
        injection e1 with e1
        injection e1 with e1 e2
        subst e1 e2
        exact ⟨full, t, fz, e3, e4, e5⟩
      | ext z => simp [LObj.avoid] at hlook
      | dead => simp [LObj.avoid] at hlook
    refine .inl ⟨want_sound hw hfrm, ?_⟩
    unfold Oper.wp
    rw [h1]
    exact ⟨x, rfl, s, b, σ, own, _, _, I.made D hr (by rw [hK]; simp) hap hdi hhi h3 h4 hxr (by rw [hV]; exact h2)⟩
  | mark v m hw ht hn =>
    unfold lookR at hlook
    rw [hK] at hlook
    rw [Bool.and_eq_true] at hlook
    have hmkl : cf.mks[r.c.mks.length]? = some i := prefix_get toend1.mks (by
      show (r.c.mks ++ [i])[r.c.mks.length]? = some i
      rw [List.getElem?_append_right (Nat.le_refl _), Nat.sub_self]
      rfl)
    have hsl : r.c.mks.length = s := by
      have h1 := I.mks _ _ hmkl
      rw [hdi] at h1
      have h2 : ¬ r.c.mks.length < s := of_decide_eq_false h1.symm
      have h3 : r.c.mks.length ≤ s := by
        rcases Nat.eq_zero_or_pos r.c.mks.length with h0 | h0
        · omega
        · have hx : r.c.mks[r.c.mks.length - 1]? = some (r.c.mks[r.c.mks.length - 1]'(by omega)) := List.getElem?_eq_getElem (by omega)
          have hlast : r.c.mks.getLast? = some (r.c.mks[r.c.mks.length - 1]'(by omega)) := by
            rw [List.getLast?_eq_getElem?]
            exact hx
          have h4 := hlook.2
          rw [hlast] at h4
          have h5 := (D.mask i _ h4).ready hcl hrd
          have h6 := I.mks _ _ (prefix_get toend.mks hx)
          rw [h5] at h6
          have := of_decide_eq_true h6.symm
          omega
      omega
    have hbb : b = r.c.base := by
      have h1 := prefix_get toend.bs gi.bs.1
      rw [hsl, I.base] at h1
      injection h1
    have hmem1 : HRel T ρ (sgG σ BL (takes ms i r.c.pd)) (ogG own BI (takes ms i r.c.pd)) (⟨addP (fun q => (ms.getD i 0).testBit q) r.c.base.h r.c.pd, r.c.nx⟩ : Mem X) w := by
      refine I.mem.absorb I.ex _ (by rw [hbb]; exact gi.nx.1) (fun j p hj hg => ?_) (fun j ob hj => ?_)
      · obtain ⟨q, q1, _, q3⟩ := takes_spec.1 hg
        rw [← q3]
        exact (gi.ap q (gi.pd q q1).1).2.1
      · rw [← hbb] at hj
        rcases addP_get hj with h2 | ⟨p, q1, q2, q3, q4⟩
        · exact .inl h2
        · have hpe := toend.ap p (gi.pd p q1).1
          obtain ⟨z, z1, z2⟩ := I.has p hpe ((D.mask i p.op q2).ready hcl hrd) (hiOf_ge ms p.op s cf.mks I.sle (fun r' x hx hr' => by
            have hx' : r.c.mks[r']? = some x := by
              have h1 : r.c.mks[r']? = some (r.c.mks[r']'(by omega)) := List.getElem?_eq_getElem (by omega)
              have h2 := prefix_get toend.mks h1
              rw [h2] at hx
              injection hx with hx
              rw [← hx]
              exact h1
            exact (gi.pd p q1).2 x (List.mem_of_getElem? hx')))
          rw [q3] at z1
          rw [q4] at z2
          exact .inr ⟨takes_spec.2 ⟨p, q1, q2, q3⟩, z, z1, z2⟩
    have hfrm1 : FRel ρ (sgG σ BL (takes ms i r.c.pd)) (keepTr r.c.fr (readsOf ops.toList o)) n0 (puts (dsts ops) 0 u a) := by
      refine ⟨hfrm.size, fun t e he hne => ?_⟩
      obtain ⟨x, h1, h2⟩ := hfrm.get t e he hne
      obtain ⟨h3, h4⟩ := keepTr_get he
      have hav := avoidR_spec hlook.1 t h3 e h4
      refine ⟨x, ?_, h2⟩
      rw [← h1]
      refine (avoid_conc (fun j hj => ?_) e hav).symm
      unfold sgG
      cases hb : BL j with
      | none => rfl
      | some q =>
        simp only
        obtain ⟨p, q1, q2, q3, q4⟩ := I.only j q hb
        cases hbit : (ms.getD i 0).testBit p.op with
        | true =>
          have : takes ms i r.c.pd j = true := takes_spec.2 ⟨p, taken D q1 hi hr hbit (by rw [hsl]; exact q4), hbit, q2⟩
          rw [this]
        | false =>
          refine absurd ?_ hj
          rw [← q2]
          exact idsOf_mem q1 (by rw [hbit, hsl, Nat.ble_eq_true_of_le q4]; rfl)
    refine .inl ⟨want_sound hw hfrm1, ?_⟩
    have hbs1 : cf.bs[s + 1]? = some m := prefix_get toend1.bs (by
      show (r.c.bs ++ [m])[s + 1]? = some m
      rw [List.getElem?_append_right (by rw [gi.bs.2, hsl]; exact Nat.le_refl _), gi.bs.2, hsl, Nat.sub_self]
      rfl)
    refine turn_to ht hfrm1 hmem1 hC hB _ Q fun x w1 σ1 own1 hx hH1 hS1 => ?_
    have hM := I.marked D (v := x) hi hr hK hdi hsl (by rw [← hsl]; exact hmkl) hbs1 (by rw [hCi]) hn (by rw [hbb]; exact gi.nx.1) hH1 hS1 (by rw [hV]; exact hx)
    exact ⟨x, rfl, s + 1, m, σ1, own1, _, _, hM⟩
theorem draw_ok (hm : P.follows .mixedOrders = true) (hB : BareOk P ρ bl) : DrawOk T P ρ (drawEv P bl) := by
  intro call hC ops s s' h id σ own a w hS Q hQ
  unfold drawEv at h
  simp only at h
  split at h
  · cases h
  · rename_i hstat
    split at h
    · cases h
    · rename_i rs cf hrun
      split at h
      · cases h
      · rename_i hlk
        injection h with h
        have hst := statOk_spec hstat
        obtain ⟨r1, r2, r3⟩ := runR_spec hrun
        have D : RunD P bl call ops (masksOf ops.toList []) s.fr s.n s.m rs cf :=
          ⟨hst, fun i j hb => mask_reach hb, by rw [r1, Array.length_toList], r2, fun k o ho => by
            have := r3 k o (by rw [Array.getElem?_toList]; exact ho)
            rw [Nat.zero_add] at this
            exact this, fun k o r ho hr => by
            have := lookAll_spec hlk k o r (by rw [Array.getElem?_toList]; exact ho) hr
            rw [Nat.zero_add] at this
            exact this⟩
        generalize masksOf ops.toList [] = ms at D
        have htk : ops.toList.take ops.size = ops.toList := List.take_of_length_le (by rw [Array.length_toList]; exact Nat.le_refl _)
        obtain ⟨u0, hu0⟩ := puts_start (dsts ops) 0 a
        have ge := D.good ops.size (Nat.le_refl _)
        rw [D.cf_at] at ge
        have to0 := D.to_end (Nat.zero_le _)
        rw [D.c0] at to0
        refine wp_region_any hm ?_
        have inv0 : HeadInv .any ops ops.size (Array.replicate ops.size false) :=
          ⟨by simp, fun j oj _ hl => (by rw [getD_replicate_false] at hl; cases hl), fun t ht1 ht2 => absurd ht2 (by omega)⟩
        have hc : countU (fun j => !(Array.replicate ops.size false).getD j false) ops.size = ops.size := by
          have h : ∀ m, countU (fun j => !(Array.replicate ops.size false).getD j false) m = m := by
            intro m
            induction m with
            | zero => rfl
            | succ m ih => rw [countU, ih, getD_replicate_false]; rfl
          exact h _
        have hfr0 : Fr Nothing w w.drew := (Fr.refl _ _).drew
        have hI0 : Inv T ρ ms s.m rs cf σ own w u0 (fun j => (Array.replicate ops.size false).getD j false) u0 w.drew := by
          have hf : ∀ j, (Array.replicate ops.size false).getD j false = false := fun j => getD_replicate_false _ _
          refine ⟨0, s.m, σ, own, fun _ => none, fun _ => none, ⟨Nat.zero_le _, fun r x _ => (by simp [hf]), prefix_get to0.bs rfl, hS.h.later hfr0, Nat.le_refl _, fun _ _ => rfl, hfr0.weak, fun _ _ h => h, ⟨fun _ _ h => (by cases h), fun _ _ h => (by cases h)⟩, fun _ _ h => (by cases h), fun p _ hd => (by rw [hf] at hd; cases hd), fun _ _ h => (by cases h), fun p hp _ => hS.h.dom _ (ge.ap p hp).2.2, fun j r _ hd => (by rw [hf] at hd; cases hd), fun _ _ => rfl⟩⟩
        have key := inv_go (P := P) (Q := Q) (a := a) (ops := ops) (n := ops.size) hst.grow (Inv T ρ ms s.m rs cf σ own w u0) ?_ ?_ ops.size (Array.replicate ops.size false) u0 w.drew inv0 hc hI0
        · rw [htk] at key
          rw [show puts (ops.toList.map (·.dst)) 0 u0 a = a from hu0, show ops.size + (ops.size - ops.size) = ops.size by omega] at key
          exact key
        · intro i o hin ho d u w' hdi hcl hrd hI
          rw [htk]
          exact draw_step hC hB D hS.f hu0 hS.h.dom ho hdi hcl (fun k hk => (hrd k hk).1) hI
        · intro d u w' hall hI
          rw [htk, show ops.toList.drop ops.size = [] from List.drop_of_length_le (by rw [Array.length_toList]; exact Nat.le_refl _)]
          obtain ⟨st, b, σ1, own1, BL, BI, I⟩ := hI
          show Q .normal (puts (dsts ops) 0 u a) w'
          subst h
          have hlen : st = cf.mks.length := by
            have h1 := I.sle
            rcases Nat.lt_or_ge st cf.mks.length with h2 | h2
            · have h3 := I.mks st _ (List.getElem?_eq_getElem h2)
              obtain ⟨h4, _⟩ := ge.mkr st _ (List.getElem?_eq_getElem h2)
              rw [hall _ h4] at h3
              have := of_decide_eq_true h3.symm
              omega
            · omega
          have hbb : b = cf.base := by
            have h1 := I.base
            rw [hlen, ge.bs.1] at h1
            injection h1 with h1
            exact h1.symm
          have hlt : ∀ j p, BL j = some p → j < cf.nx := fun j p hj => by
            obtain ⟨q, q1, q2, _⟩ := I.only j p hj
            rw [← q2]
            exact (ge.ap q q1).2.1
          have hmem : HRel T ρ (sgG σ1 BL allG) (ogG own1 BI allG) (⟨addP (fun _ => true) cf.base.h cf.pd, cf.nx⟩ : Mem X) w' := by
            refine I.mem.absorb I.ex allG (by rw [hbb]; exact ge.nx.1) (fun j p hj _ => hlt j p hj) (fun j ob hj => ?_)
            rw [← hbb] at hj
            rcases addP_get hj with h2 | ⟨p, q1, _, q3, q4⟩
            · exact .inl h2
            · have hpe := (ge.pd p q1).1
              obtain ⟨z, z1, z2⟩ := I.has p hpe (hall _ (ge.ap p hpe).1) (hiOf_ge ms p.op st cf.mks I.sle (fun r' x hx _ => (ge.pd p q1).2 x (List.mem_of_getElem? hx)))
              rw [q3] at z1
              rw [q4] at z2
              exact .inr ⟨rfl, z, z1, z2⟩
          have hle0 : Sg.le σ σ1 := fun j p hj => by
            rcases Nat.lt_or_ge j s.m.nx with h | h
            · rw [I.ext j h]; exact hj
            · rw [hS.h.dom j h] at hj; cases hj
          have hle : Sg.le σ (sgG σ1 BL allG) := fun j p hj => I.ex.le allG j p (hle0 j p hj)
          refine hQ (sgG σ1 BL allG) (ogG own1 BI allG) _ w' ⟨hmem, ⟨by rw [puts_size]; exact hS.f.size, fun t e he hne => ?_⟩, ?_⟩ ⟨fun j hj => ?_, ?_, ?_, fun k hk ho => ?_⟩
          · have hnd : ((dsts ops).filterMap _root_.id).Nodup := by
              have := hst.grow.nodup
              rw [htk] at this
              exact this
            rcases ge.fr t e he with ⟨j, q, r', h3, h4, h5, h6, h7⟩ | ⟨h3, h4⟩
            · have hv := I.val j r' h6 (hall j h3)
              rw [h7] at hv
              refine ⟨u j, hv.resolve_left hne, ?_⟩
              obtain ⟨r'', hr'', _, hl⟩ := D.step j q h4
              have g' := D.good j (Nat.le_of_lt h3)
              rw [cOf_at hr''] at g'
              rw [puts_at hnd (by rw [dst_at h4, h5]) (by rw [hS.f.size, ← g'.n]; exact hl t h5), Nat.zero_add]
            · obtain ⟨v, q1, q2⟩ := hS.f.get t e h3 hne
              refine ⟨v, EV.conc_mono hle ρ e v q1, ?_⟩
              rw [puts_not (fun hmm => by
                obtain ⟨j, q, hq, hd⟩ := dst_mem hmm
                exact h4 j q (Array.getElem?_eq_some_iff.1 hq).1 hq hd)]
              exact q2
          · rw [puts_defers]
            exact hS.d.mono hle
          · have : BL j = none := by
              cases hb : BL j with
              | none => rfl
              | some p =>
                obtain ⟨q, q1, q2, _⟩ := I.only j p hb
                have := (ge.ap q q1).2.2
                omega
            unfold sgG
            rw [this]
            exact I.ext j hj
          · exact Nat.le_trans ge.nx.2 ge.nx.1
          · exact I.fr
          · unfold ogG
            cases hb : BI k with
            | none => exact I.old k hk ho
            | some j =>
              obtain ⟨c', hc'⟩ := I.ex.bi k j hb
              have : w.heap.size ≤ k := I.new j _ hc'
              omega
end
end Ev
end Go.Proofs.YtmpokappjogehaaGreatDoor

namespace Go.Proofs.YtmpokappjogehaaGreatDoor
namespace Ev
open Go Go.RowKit
theorem kAll_ok (ρ : Nat → Value) : CallOk (TX ρ) Tryz.prog ρ kAll := callOk_or kCodec_ok (callOk_or kView_ok kIns_ok)
theorem no_ng (f : Nat) (fn : Func) (h : Tryz.prog.funcs[f]? = some fn) (hb : fn.body.isSome = true) : (fn.name == "runtime.NumGoroutine") = false := by
  have h0 : Tryz.prog.funcs.all (fun fn => !fn.body.isSome || !(fn.name == "runtime.NumGoroutine")) = true := by kernel_rfl
  rw [Array.all_eq_true_iff_forall_mem] at h0
  have h1 := h0 fn (Array.mem_of_getElem? h)
  rw [hb] at h1
  simpa using h1
noncomputable def EvE (K : Caller XO) : Env XO := { P := Tryz.prog, K := K, B := bAll, R := fun _ _ _ _ => none }
noncomputable def dr0 : Caller XO → List Oper → St XO → Option (St XO) := drawEv Tryz.prog bAll
theorem ee_ok {ρ : Nat → Value} {K : Caller XO} (hK : CallOk (TX ρ) Tryz.prog ρ K) : EnvOk (TX ρ) ρ (EvE K) := ⟨hK, bAll_ok, fun _ _ _ _ => rfl, no_ng⟩
/-- Calls of the program, as the evaluator runs them. -/
noncomputable def runE (K : Caller XO) : Caller XO := callEv (EvE K) (ev (EvE K) dr0 600)
theorem runE_ok {ρ : Nat → Value} {K : Caller XO} (hK : CallOk (TX ρ) Tryz.prog ρ K) : CallOk (TX ρ) Tryz.prog ρ (runE K) :=
  call_ok (ee_ok hK) (draw_ok (by kernel_rfl) bAll_ok) 600

/-! ### One call on a view -/
mutual
def noPtr : EV → Bool
  | .ptr .. | .slc .. | .asl .. | .map _ => false
  | .fn _ a c => noPtrs a && noPtrs c
  | .agg cs | .tup cs => noPtrs cs
  | _ => true
def noPtrs : List EV → Bool
  | [] => true
  | e :: l => noPtr e && noPtrs l
end
mutual
theorem noPtr_conc (σ σ' : Sg) (ρ : Nat → Value) : ∀ (e : EV), noPtr e = true → e.conc σ ρ = e.conc σ' ρ
  | .ptr .., h | .slc .., h | .asl .., h | .map _, h => by simp [noPtr] at h
  | .fn f x c, h => by
    simp only [noPtr, Bool.and_eq_true] at h
    simp only [EV.conc, noPtrs_conc σ σ' ρ x h.1, noPtrs_conc σ σ' ρ c h.2]
  | .agg cs, h => by simp only [noPtr] at h; simp only [EV.conc, noPtrs_conc σ σ' ρ cs h]
  | .tup cs, h => by simp only [noPtr] at h; simp only [EV.conc, noPtrs_conc σ σ' ρ cs h]
  | .bool _, _ | .int _ _, _ | .str _, _ | .nilp, _ | .nils, _ | .nilm, _ | .nilf, _ | .sint .., _ | .sstr .., _ | .slen .., _ | .any, _ => by simp only [EV.conc]
theorem noPtrs_conc (σ σ' : Sg) (ρ : Nat → Value) : ∀ (l : List EV), noPtrs l = true → EV.concs σ ρ l = EV.concs σ' ρ l
  | [], _ => rfl
  | e :: l, h => by
    simp only [noPtrs, Bool.and_eq_true] at h
    simp only [EV.concs, noPtr_conc σ σ' ρ e h.1, noPtrs_conc σ σ' ρ l h.2]
end
theorem ix_mono (ρ : Nat → Value) (x : XO) {S S' : Nat → Prop} {w : World} {b : Nat} (h : IX ρ x S w b) (hS : ∀ k, S k → S' k) : IX ρ x S' w b := by
  cases x with
  | rd s => obtain ⟨h1, S1, p, h2, h3⟩ := h; exact ⟨hS b h1, S1, p, h2, fun k hk => hS k (h3 k hk)⟩
  | wr s => obtain ⟨h1, v, h2, h3⟩ := h; exact ⟨hS b h1, v, h2, fun k hk => hS k (h3 k hk)⟩
  | state => exact ⟨hS b h.1, h.2⟩
  | view bs l => obtain ⟨Lb, L, s, h1, h2, h3, h4, h5, h6⟩ := h; exact ⟨Lb, L, s, h1, h2, h3, h4, fun k hk => hS k (h5 k hk), hS s h6⟩
abbrev VBs := Option (Nat × List ECall)
def mem0 (bs : VBs) (l : List ECall) : Mem XO := ⟨Tr.nil.put 0 (.ext (.view bs l)), 1⟩
/-- A call on a view, run with nothing else in memory. -/
noncomputable def viewRun (K : Caller XO) (f : Nat) (args : List EV) (bs : VBs) (l : List ECall) : Option (EV × VBs × List ECall) := match runE K f (.ptr 0 0 :: args) (mem0 bs l) with
  | some (r, m) => match m.h.get 0 with
    | some (.ext (.view bs' l')) => bif noPtr r && noPtrs args then some (r, bs', l') else none
    | _ => none
  | none => none
theorem viewRun_ok {ρ : Nat → Value} {K : Caller XO} (hK : CallOk (TX ρ) Tryz.prog ρ K) {f : Nat} {args : List EV} {bs bs' : VBs} {l l' : List ECall} {r : EV} (h : viewRun K f args bs l = some (r, bs', l'))
    {m : Mem XO} {id : Nat} (hg : m.h.get id = some (.ext (.view bs l))) : KOk ρ f (.ptr id 0 :: args) m r (m.upd id (.ext (.view bs' l'))) := by
  unfold viewRun at h
  split at h
  · rename_i r0 m1 hrun
    split at h
    · rename_i bs1 l1 hg1
      replace h := bif_some h
      rcases h with ⟨hp, h⟩ | ⟨_, h⟩
      · injection h with h
        injection h with e1 h
        injection h with e2 e3
        subst e1 e2 e3
        simp only [Bool.and_eq_true] at hp
        obtain ⟨hen, hcall⟩ := runE_ok hK f _ _ _ _ hrun
        refine ⟨hen, fun σ own w vs hc hH => ?_⟩
        obtain ⟨b, c, h1, h2, h3⟩ := hH.obj id _ hg
        obtain ⟨us, hu, rfl⟩ := ptr_args hc h1
        have own1 : Ow := fun k => if own k = some id then some 0 else none
        have hS : ∀ k, (if own k = some id then some 0 else none : Option Nat) = some 0 ↔ own k = some id := fun k => by
          by_cases h : own k = some id
          · simp [h]
          · simp [h]
        have hH1 : HRel (TX ρ) ρ (fun j => if j = 0 then some (b, c) else none) (fun k => if own k = some id then some 0 else none) (mem0 bs l) w := by
          refine ⟨fun i hi => if_neg (by have : 1 ≤ i := hi; omega), fun k r hk => ?_, fun k hk => ⟨(hH.tab k hk).1, if_neg (by rw [(hH.tab k hk).2]; simp)⟩, hH.g, fun i o hi => ?_⟩
          · split at hk
            · rename_i ho
              injection hk with hk
              subst hk
              exact ⟨(hH.ow k id ho).1, Nat.lt_succ_self _⟩
            · cases hk
          · have hi2 : (Tr.put Tr.nil 0 (LObj.ext (XO.view bs l))).get i = some o := hi
            rcases Tr.get_put hi2 with ⟨rfl, rfl⟩ | ⟨_, hi'⟩
            · exact ⟨b, c, rfl, if_pos h2, ix_mono ρ (.view bs l) h3 (fun k hk => (hS k).2 hk)⟩
            · cases hi'
        have hc1 : EV.concs (fun j => if j = 0 then some (b, c) else none) ρ (.ptr 0 0 :: args) = some (.pointer (some ⟨b, 0, none⟩) :: us) := by
          rw [noPtrs_conc σ (fun j => if j = 0 then some (b, c) else none) ρ args hp.2] at hu
          simp only [EV.concs, EV.conc, hu, if_true]
        refine (hcall _ _ w _ hc1 hH1).mono ?_
        rintro e w' ⟨u, σ', own', rfl, hr, hH', hst⟩
        obtain ⟨b', c', q1, q2, q3⟩ := hH'.obj 0 _ hg1
        have q4 := hst.ext 0 (Nat.lt_succ_self _)
        rw [q1] at q4
        simp only [if_true, Option.some.injEq, Prod.mk.injEq] at q4
        obtain ⟨rfl, rfl⟩ := q4
        refine post_turn hH h1 h2 (hst.fr.mono fun k _ ⟨r, hr⟩ => ?_) (by rw [noPtr_conc σ σ' ρ _ hp.1]; exact hr) (fun mo mn => ix_mono ρ (.view bs1 l1) q3 fun k hk => ?_)
        · split at hr
          · assumption
          · cases hr
        · rcases Nat.lt_or_ge k w.heap.size with hlt | hge
          · by_cases ho : own k = some id
            · exact mo k ho
            · have := hst.old k hlt (if_neg ho)
              rw [this] at hk
              cases hk
          · exact mn k hge (hH'.ow k 0 hk).1
      · cases h
    · cases h
  · cases h
end Ev
end Go.Proofs.YtmpokappjogehaaGreatDoor

namespace Go.Proofs.YtmpokappjogehaaGreatDoor
open Go.RowKit

structure PipeV where
  epoch : Nat
  readers : Nat
  writers : Nat
  bytes : ByteArray
  deriving DecidableEq
def PipeV.cells (p : PipeV) : List Value := [.int .i64 (p.epoch : Nat), .int .i64 (p.readers : Nat), .int .i64 (p.writers : Nat), .string p.bytes]
def okPipe (p : PipeV) : Prop := p.epoch ≤ 1073741824 ∧ p.readers ≤ 64 ∧ p.writers ≤ 64 ∧ (p.readers ≠ 0 ∨ p.writers ≠ 0) ∧ p.bytes.size ≤ 256
theorem isEpoch_any (n : Nat) (h : n ≤ 1073741824) (w : World) : Calls Tryz.prog 179 #[.int .i64 (n : Nat)] w (SameW w (.bool true)) := by
  have h1 : decide ((0 : Int) ≤ (n : Int)) = true := decide_eq_true (by omega)
  have h2 : decide ((n : Int) ≤ 1073741824) = true := decide_eq_true (by omega)
  go_enter Tryz.func179, Tryz.ntmps179
  go_wp2
  go_ret
  exact ⟨rfl, rfl⟩
theorem isEnds_any (n : Nat) (h : n ≤ 64) (w : World) : Calls Tryz.prog 263 #[.int .i64 (n : Nat)] w (SameW w (.bool true)) := by
  have h1 : decide ((0 : Int) ≤ (n : Int)) = true := decide_eq_true (by omega)
  have h2 : decide ((n : Int) ≤ 64) = true := decide_eq_true (by omega)
  go_enter Tryz.func263, Tryz.ntmps263
  go_wp2
  go_ret
  exact ⟨rfl, rfl⟩
end Go.Proofs.YtmpokappjogehaaGreatDoor

namespace Go.Proofs.YtmpokappjogehaaGreatDoor
open Go.RowKit

set_option maxRecDepth 100000 in
set_option maxHeartbeats 2000000 in
theorem PCheck_any (p : PipeV) (hp : okPipe p) (w : World) : Calls Tryz.prog 181 #[.agg p.cells.toArray] w (Same' w (.int .i64 0)) := by
  obtain ⟨h1, h2, h3, h4, h5⟩ := hp
  have H4 := Lib.hid h4
  clear h4
  go_enter Tryz.func181, Tryz.ntmps181
  go_wp2_with (refine wpList_boxBlk rfl 148 (.tmp 0) rfl p.cells.toArray rfl ?_)
  intro w0 n0
  have F0 := Lib.hid n0.fr
  have B0 := Lib.hid n0.blk
  clear n0
  generalize w.heap.size = gb at *
  have c0 : w0.cell? ⟨gb, 0, none⟩ = some (.int .i64 (p.epoch : Nat)) := B0.out.cell 0
  have c1 : w0.cell? ⟨gb, 1, none⟩ = some (.int .i64 (p.readers : Nat)) := B0.out.cell 1
  have c2 : w0.cell? ⟨gb, 2, none⟩ = some (.int .i64 (p.writers : Nat)) := B0.out.cell 2
  have c3 : w0.cell? ⟨gb, 3, none⟩ = some (.string p.bytes) := B0.out.cell 3
  have t3 : decide ((256 : Int) < (p.bytes.size : Int)) = false := decide_eq_false (by omega)
  go_wp2_with fail
  refine (isEpoch_any p.epoch h1 w0).mono ?_
  rintro e w1 ⟨rfl, rfl⟩
  go_wp2_with fail
  refine (isEnds_any p.readers h2 w0).mono ?_
  rintro e w1 ⟨rfl, rfl⟩
  go_wp2_with fail
  refine (isEnds_any p.writers h3 w0).mono ?_
  rintro e w1 ⟨rfl, rfl⟩
  by_cases hr : p.readers = 0
  · have t1 : ((p.readers : Int) == 0) = true := by simp [hr]
    have t2 : ((p.writers : Int) == 0) = false := by
      have := H4.out
      simp
      omega
    go_wp2
    go_ret
    exact ⟨rfl, F0.out⟩
  · have t1 : ((p.readers : Int) == 0) = false := by simpa using hr
    go_wp2
    go_ret
    exact ⟨rfl, F0.out⟩
end Go.Proofs.YtmpokappjogehaaGreatDoor

namespace Go.Proofs.YtmpokappjogehaaGreatDoor
open Go.RowKit

def encP (p : PipeV) : List UInt8 := ((([] ++ enc p.epoch) ++ enc p.readers) ++ enc p.writers) ++ textB (strL p.bytes)
theorem infoPipe : (Tryz.prog.info? 148).map (·.size) = some 4 := by kernel_rfl
set_option maxRecDepth 100000 in
set_option maxHeartbeats 2000000 in
theorem PEncode_any (p : PipeV) (hp : okPipe p) (w : World) : Calls Tryz.prog 92 #[.agg p.cells.toArray] w (Same' w (.tuple #[.string ⟨(encP p).toArray⟩, .int .i64 0])) := by
  obtain ⟨h1, h2, h3, h4, h5⟩ := hp
  have CC : Hid (∀ w, Calls Tryz.prog 181 #[.agg p.cells.toArray] w (Same' w (.int .i64 0))) := PCheck_any p ⟨h1, h2, h3, h4, h5⟩
  clear h4
  go_enter Tryz.func92, Tryz.ntmps92
  go_wp2_with (refine wpList_boxBlk rfl 148 (.tmp 0) rfl p.cells.toArray rfl ?_)
  intro w0 n0
  have F0 := Lib.hid n0.fr
  have B0 := Lib.hid n0.blk
  clear n0
  generalize w.heap.size = gb at *
  go_wp2_with (refine wpList_load_add rfl 148 (.tmp 1) rfl ⟨gb, 0, none⟩ rfl p.cells _ (blk_at B0.out 0 _ (fun j v h => by rw [Nat.zero_add, List.getElem?_toArray]; exact h)) Tryz.underlying148 rfl infoPipe (Held.go ?hk))
  unfold Held
  go_wp2_with fail
  refine (CC.out _).mono ?_
  rintro e w1 ⟨rfl, f1⟩
  have F1 := Lib.hid (F0.out.trans f1)
  have B1 := Lib.hid (Blk.fr B0.out f1 (fun x => x))
  clear f1 F0 B0
  go_wp2_with fail
  refine (Wi.start F1.out).mono ?_
  rintro e w2 ⟨rfl, W2, f2⟩
  have HW2 := Lib.hid W2
  have B2 := Lib.hid (Blk.fr B1.out f2 (fun x => x))
  clear f2 W2 B1 F1
  generalize w1.heap.size = gw at *
  have c0 : w2.cell? ⟨gb, 0, none⟩ = some (.int .i64 (p.epoch : Nat)) := B2.out.cell 0
  go_wp2_with fail
  refine (HW2.out.number p.epoch (by simp) (by omega)).mono ?_
  rintro e w3 ⟨rfl, W3, k3⟩
  have HW3 := Lib.hid W3
  have B3 := Lib.hid (k3 gb _ _ B2.out (by decide) (by decide))
  clear k3 W3 B2 HW2 c0
  have c1 : w3.cell? ⟨gb, 1, none⟩ = some (.int .i64 (p.readers : Nat)) := B3.out.cell 1
  go_wp2_with fail
  have le : ∀ n, (enc n).length ≤ 10 := enc_length
  have L3 : Hid (([] ++ enc p.epoch).length ≤ 10) := by simp only [Hid]; rw [List.nil_append]; exact le _
  refine (HW3.out.number p.readers (by have := L3.out; omega) (by omega)).mono ?_
  rintro e w4 ⟨rfl, W4, k4⟩
  have HW4 := Lib.hid W4
  have B4 := Lib.hid (k4 gb _ _ B3.out (by decide) (by decide))
  have L4 : Hid ((([] ++ enc p.epoch) ++ enc p.readers).length ≤ 20) := by simp only [Hid]; rw [List.length_append]; have := L3.out; have := le p.readers; omega
  clear k4 W4 B3 HW3 c1
  have c2 : w4.cell? ⟨gb, 2, none⟩ = some (.int .i64 (p.writers : Nat)) := B4.out.cell 2
  go_wp2_with fail
  refine (HW4.out.number p.writers (by have := L4.out; omega) (by omega)).mono ?_
  rintro e w5 ⟨rfl, W5, k5⟩
  have HW5 := Lib.hid W5
  have B5 := Lib.hid (k5 gb _ _ B4.out (by decide) (by decide))
  have L5 : Hid (((([] ++ enc p.epoch) ++ enc p.readers) ++ enc p.writers).length ≤ 30) := by simp only [Hid]; rw [List.length_append]; have := L4.out; have := le p.writers; omega
  clear k5 W5 B4 HW4 c2
  have c3 : w5.cell? ⟨gb, 3, none⟩ = some (.string p.bytes) := B5.out.cell 3
  go_wp2_with fail
  refine (HW5.out.text p.bytes (by have := L5.out; omega) (by omega)).mono ?_
  rintro e w6 ⟨rfl, W6, k6⟩
  have HW6 : Hid (Wi w w6 gw (encP p)) := W6
  have L6 : Hid ((encP p).length ≤ 1099511627776) := by
    simp only [Hid, encP, textB, List.length_append, strL_length, List.length_nil]
    have := le p.epoch
    have := le p.readers
    have := le p.writers
    have := le p.bytes.size
    omega
  clear k6 W6 B5 HW5 c3 L3 L4 L5
  generalize encP p = LL at *
  go_wp2_with fail
  refine (bytes_text HW6.out L6.out).mono ?_
  rintro e w7 ⟨A, n, c, rfl, f7, hc⟩
  have F7 := Lib.hid f7
  clear f7 HW6 L6 le
  go_wp2
  go_ret2
  exact ⟨rfl, F7.out⟩
end Go.Proofs.YtmpokappjogehaaGreatDoor

namespace Go.Proofs.YtmpokappjogehaaGreatDoor
open Go.RowKit

def pipeZ : Value := .agg #[.int .i64 0, .int .i64 0, .int .i64 0, .string ByteArray.empty]
theorem zvPipe (w : World) : (zeroValue 148).run Tryz.prog w = .ok pipeZ w := by kernel_rfl
theorem encP_r (p : PipeV) : encP p = enc p.epoch ++ (enc p.readers ++ (enc p.writers ++ (textB (strL p.bytes) ++ []))) := by simp [encP]
/-- Ri with the number that is there. -/
theorem Ri.num {w0 W : World} {g : Nat} {S : Nat → Prop} {u : Nat} {r : List UInt8} {k : Nat} (h : Ri w0 W g S (enc u ++ r, k, 0)) (most : Nat) (hu : u < 9223372036854775808) (hm : u ≤ most) :
    Calls Tryz.prog 202 #[.pointer (some ⟨g, 0, none⟩), .int .i64 (most : Nat)] W (fun e W' => e = .returned (.int .i64 (u : Nat)) ∧ (∃ k', Ri w0 W' g S (r, k', 0)) ∧ Fr (Only g) W W') := by
  refine (h.number (most : Nat)).mono ?_
  rintro e W' ⟨rfl, h1, h2⟩
  rw [rNum_enc u (most : Nat) hu (by omega) r k] at h1 ⊢
  exact ⟨rfl, ⟨_, h1⟩, h2⟩
theorem Ri.txt {w0 W : World} {g : Nat} {S : Nat → Prop} {s : ByteArray} {r : List UInt8} {k : Nat} (h : Ri w0 W g S (textB (strL s) ++ r, k, 0)) (most : Nat) (hu : s.size ≤ 16777216) (hm : s.size ≤ most) :
    Calls Tryz.prog 203 #[.pointer (some ⟨g, 0, none⟩), .int .i64 (most : Nat)] W (fun e W' => e = .returned (.string s) ∧ (∃ k', Ri w0 W' g S (r, k', 0)) ∧ Fr (Only g) W W') := by
  refine (h.text (most : Nat)).mono ?_
  rintro e W' ⟨rfl, h1, h2⟩
  rw [rText_enc (strL s) (most : Nat) (by rw [strL_length]; omega) (by rw [strL_length]; omega) r k] at h1 ⊢
  exact ⟨rfl, ⟨_, h1⟩, h2⟩
theorem Ri.flg {w0 W : World} {g : Nat} {S : Nat → Prop} {b : Bool} {r : List UInt8} {k : Nat} (h : Ri w0 W g S (flagB b ++ r, k, 0)) :
    Calls Tryz.prog 204 #[.pointer (some ⟨g, 0, none⟩)] W (fun e W' => e = .returned (.bool b) ∧ (∃ k', Ri w0 W' g S (r, k', 0)) ∧ Fr (Only g) W W') := by
  refine h.flag.mono ?_
  rintro e W' ⟨rfl, h1, h2⟩
  rw [rFlag_enc b r k] at h1 ⊢
  exact ⟨rfl, ⟨_, h1⟩, h2⟩
theorem Ri.cls {w0 W : World} {g : Nat} {S : Nat → Prop} {k : Nat} (h : Ri w0 W g S ([], k, 0)) :
    Calls Tryz.prog 205 #[.pointer (some ⟨g, 0, none⟩)] W (SameW W (.int .i64 0)) := h.close
end Go.Proofs.YtmpokappjogehaaGreatDoor
