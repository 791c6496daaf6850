/- Steps of the proof of LawPipesLoseNothing: contracts of the functions that the law reaches, for every world that holds what each of them asks. -/
import Derived.Test.YtmpokappjogehaaGreatDoorQAH
import Derived.Test.YtmpokappjogehaaGreatDoorQAP
import Derived.Test.YtmpokappjogehaaGreatDoorQAT
import Derived.Test.YtmpokappjogehaaGreatDoorQAQ
set_option linter.unusedVariables false
set_option linter.unusedSimpArgs false
namespace Go.Proofs.YtmpokappjogehaaGreatDoor
namespace Ev
open Go Go.RowKit

def ECall.cv (ρ : Nat → Value) (c : ECall) : Option CV := match c.value.conc (fun _ => none) ρ with
  | some (.string x) => some ⟨c.nm.nv, x, c.absent⟩
  | _ => none
/-- What lies below a view's calls. -/
def BaseOk (ρ : Nat → Value) (b : Option (Nat × List ECall)) (Lb : List CV) : Prop := match b with
  | none => Lb = []
  | some (i, l0) => ∃ L0, allO (l0.map (ECall.cv ρ)) = some L0 ∧ (∀ n, lastC Lb n = lastC L0.reverse n) ∧ ρ i = .int .i64 (Lb.length : Nat) ∧ Lb.length ≤ 100000
def IX (ρ : Nat → Value) : XO → (Nat → Prop) → World → Nat → Prop
  | .rd s, S, w, b => S b ∧ ∃ S' p, Rr w b S' s.l p 0 ∧ ∀ k, S' k → S k
  | .wr s, S, w, b => S b ∧ ∃ v, Wr w b v s.l 0 ∧ ∀ k, v.ownBlock = some k → S k
  | .state, S, w, b => S b ∧ StH w b .leaf
  | .view bs l, S, w, b => ∃ Lb L s, BaseOk ρ bs Lb ∧ allO (l.map (ECall.cv ρ)) = some L ∧ ViewC w b (Lb ++ L.reverse) ∧ VBase w b s ∧ (∀ k, VB w b k → S k) ∧ S s
/-- A world whose blocks in S are those of w, with w's other parts. -/
theorem fr_in {S : Nat → Prop} {w w' : World} (hS : ∀ k, S k → w'.heap[k]? = w.heap[k]?) (hz : w.heap.size ≤ w'.heap.size) : Fr (fun k => ¬ S k) w { w' with os := w.os, tape := w.tape, output := w.output } :=
  ⟨rfl, rfl, rfl, hz, fun k _ hk => hS k (Classical.not_not.1 hk)⟩
theorem vbase_inj {w : World} {v s s' : Nat} (h : VBase w v s) (h' : VBase w v s') : s = s' := by
  obtain ⟨cs, hb, hc⟩ := h
  obtain ⟨cs', hb', hc'⟩ := h'
  have h1 : w.heap[v]? = _ := hb
  have h2 : w.heap[v]? = _ := hb'
  rw [h1] at h2
  injection h2 with h2
  injection h2 with h2
  subst h2
  rw [hc] at hc'
  injection hc' with hc'
  injection hc' with hc'
  injection hc' with hc'
  injection hc'
theorem view_base {w : World} {v s mr ml : Nat} {L : List CV} {cv : Value} {rl ll : NL} (h : ViewD w v L s mr ml cv rl ll) : VBase w v s := ⟨_, h.blk, rfl⟩
theorem vb_same {w w' : World} {v k : Nat} (e : w'.heap[v]? = w.heap[v]?) (h : VB w' v k) : VB w v k := by
  rcases h with h | ⟨cs, hb, hc⟩
  · exact .inl h
  · exact .inr ⟨cs, e.symm.trans hb, hc⟩
/-- What an object of the program's own means stays where its blocks stay. -/
theorem ix_st (ρ : Nat → Value) (x : XO) (S : Nat → Prop) (w w' : World) (b : Nat) (h : IX ρ x S w b) (hS : ∀ k, S k → w'.heap[k]? = w.heap[k]?) (hz : w.heap.size ≤ w'.heap.size) : IX ρ x S w' b := by
  have F := fr_in hS hz
  cases x with
  | rd s =>
    obtain ⟨hb, S', p, hr, hS'⟩ := h
    obtain ⟨⟨A, n, c, h1, h2, h3⟩, h4, h5⟩ := hr.keep F (fun h => h hb) (fun k hk h => h (hS' k hk))
    exact ⟨hb, S', p, ⟨⟨A, n, c, h1, h2, h3⟩, h4, h5⟩, hS'⟩
  | wr s =>
    obtain ⟨hb, v, hr, hv⟩ := h
    have h1 := hr.blk.fr F (fun h => h hb)
    have h2 := own_fr hr.own F (fun k hk h => h (hv k hk))
    exact ⟨hb, v, ⟨h1, h2⟩, hv⟩
  | state =>
    obtain ⟨hb, a, h1, h2⟩ := h
    exact ⟨hb, a, (hS b hb).trans h1, h2⟩
  | view bs l =>
    obtain ⟨Lb, L, s, hbs, hL, ⟨s', mr, ml, cv, rl, ll, hV⟩, hB, hk, hs⟩ := h
    obtain rfl := vbase_inj hB (view_base hV)
    have hb : S b := hk b (.inl rfl)
    have k1 : S mr := hk mr (.inr ⟨_, hV.blk, .inl rfl⟩)
    have k2 : S ml := hk ml (.inr ⟨_, hV.blk, .inr (.inr rfl)⟩)
    have k3 : ∀ k, cv.ownBlock = some k → S k := fun k e => hk k (.inr ⟨_, hV.blk, .inr (.inl ⟨_, rfl, e⟩)⟩)
    obtain ⟨a, h1, h2⟩ := hV.base
    have q1 := hV.blk.fr F (fun h => h hb)
    have q2 := h1.fr F (fun h => h hs)
    have q3 := hV.reads.fr F (fun h => h k1)
    have q4 := hV.last.fr F (fun h => h k2)
    have q5 := own_fr hV.calls F (fun k e h => h (k3 k e))
    refine ⟨Lb, L, s, hbs, hL, ⟨s, mr, ml, cv, rl, ll, ⟨q1, ⟨a, q2, h2⟩, q3, q4, q5, hV.idx, hV.apart⟩⟩, ?_, fun k h => hk k (vb_same (hS b hb) h), hs⟩
    obtain ⟨cs, hb1, hc⟩ := hB
    exact ⟨cs, (hS b hb).trans hb1, hc⟩
noncomputable def TX (ρ : Nat → Value) : Itp XO where
  I := IX ρ
  tab := fun b => b = 0
  G := UsaT
  st := ix_st ρ
  gst := fun w w' h hk => ⟨fun k u hu j v hv => by
    have := h.row k u hu j v hv
    simp only [World.cell?] at this ⊢
    rw [hk 0 rfl]
    exact this⟩
end Ev
end Go.Proofs.YtmpokappjogehaaGreatDoor

namespace Go.Proofs.YtmpokappjogehaaGreatDoor
namespace Ev
open Go Go.RowKit

def entersB (P : Program) (f : Nat) : Bool := match P.funcs[f]? with
  | some fn => fn.body.isSome && !(fn.name == "runtime.NumGoroutine")
  | none => false
theorem enters_b {P : Program} {f : Nat} (h : entersB P f = true) : Enters P f := fun vs w => by
  unfold entersB at h
  cases hf : P.funcs[f]? with
  | none => rw [hf] at h; cases h
  | some fn =>
    rw [hf] at h
    simp only [Bool.and_eq_true, Bool.not_eq_true'] at h
    obtain ⟨c, hc⟩ := Option.isSome_iff_exists.1 h.1
    unfold callFunc
    simp only [Sem.run_bind, run_program, Result.andThen_ok, hf, h.2, hc, Option.isNone_some, Bool.false_eq_true, if_false, Sem.run_pure]
theorem bif_some {α : Type} {b : Bool} {x y : Option α} {r : α} (h : (bif b then x else y) = some r) : (b = true ∧ x = some r) ∨ (b = false ∧ y = some r) := by
  cases b
  · exact .inr ⟨rfl, h⟩
  · exact .inl ⟨rfl, h⟩
abbrev KOk (ρ : Nat → Value) (f : Nat) (args : List EV) (m : Mem XO) (v : EV) (m' : Mem XO) : Prop :=
  Enters Tryz.prog f ∧ ∀ σ own w vs, EV.concs σ ρ args = some vs → HRel (TX ρ) ρ σ own m w → Calls Tryz.prog f vs.toArray w (Post (TX ρ) ρ σ own m.nx w v m')
section
variable {ρ : Nat → Value} {σ : Sg} {own : Ow} {w w' : World} {m m' : Mem XO}
theorem ptr_args {id off b c : Nat} {l : List EV} {vs : List Value} (h : EV.concs σ ρ (.ptr id off :: l) = some vs) (hs : σ id = some (b, c)) : ∃ us, EV.concs σ ρ l = some us ∧ vs = .pointer (some ⟨b, off, none⟩) :: us := by
  simp only [EV.concs, EV.conc, hs] at h
  cases h1 : EV.concs σ ρ l with
  | none => rw [h1] at h; cases h
  | some us => rw [h1] at h; injection h with h; exact ⟨us, rfl, h.symm⟩
theorem post_turn {id b c : Nat} {x : XO} {ev : EV} {u : Value} (hH : HRel (TX ρ) ρ σ own m w) (hs : σ id = some (b, c)) (hb : own b = some id) (hf : Fr (fun k => own k = some id) w w') (hv : ev.conc σ ρ = some u)
    (hx : (∀ k, own k = some id → own.turn id w w' k = some id) → (∀ k, w.heap.size ≤ k → k < w'.heap.size → own.turn id w w' k = some id) → IX ρ x (fun k => own.turn id w w' k = some id) w' b) : Post (TX ρ) ρ σ own m.nx w ev (m.upd id (.ext x)) (.returned u) w' := by
  have mo : ∀ k, own k = some id → own.turn id w w' k = some id := fun k h => Ow.take_old (hH.ow k id h).1 h (fun h => h)
  obtain ⟨h1, h2⟩ := hH.turn (hH.lt hs) hf (ob := .ext x) ⟨b, c, hs, mo b hb, hx mo (fun k h1 h2 => Ow.take_new h1 h2)⟩
  exact ⟨u, σ, _, rfl, hv, h1, h2⟩
/-- Nothing of what is known is turned; new blocks are nobody's. -/
theorem post_same {ev : EV} {u : Value} (hH : HRel (TX ρ) ρ σ own m w) (hf : Fr Nothing w w') (hv : ev.conc σ ρ = some u) : Post (TX ρ) ρ σ own m.nx w ev m (.returned u) w' := by
  refine ⟨u, σ, own, rfl, hv, ⟨hH.dom, fun b r h => ⟨Nat.lt_of_lt_of_le (hH.ow b r h).1 hf.size, (hH.ow b r h).2⟩, fun b h => ⟨Nat.lt_of_lt_of_le (hH.tab b h).1 hf.size, (hH.tab b h).2⟩, (TX ρ).gst w w' hH.g (fun k hk => hf.block k (hH.tab k hk).1 (fun x => x)), fun i o hg => ?_⟩, ⟨fun _ _ => rfl, Nat.le_refl _, hf.weak, fun _ _ h => h⟩⟩
  exact (hH.obj i o hg).keep (fun _ _ h => h) (fun _ => Iff.rfl) (fun b hb => hf.block b (hH.ow b i hb).1 (fun x => x)) hf.size
/-! ### Numbers as bytes -/
theorem encE_l : ∀ (k n : Nat), (encE k n).l = encF k n
  | 0, n => by
    simp only [encE, encF, Str.l, bytesN, List.nil_append, b8]
    rw [UInt8.ofNat_mod_size']
  | k + 1, n => by
    simp only [encE, encF]
    by_cases h : n < 128
    · rw [show Nat.blt n 128 = true by simpa using h, if_pos h]
      rfl
    · rw [show Nat.blt n 128 = false from Bool.eq_false_iff.2 (fun e => h (by simpa [Nat.blt_eq] using e)), if_neg h]
      simp only [cond_false]
      rw [Str.cat_l, encE_l k (n / 128)]
      rfl
theorem numE_l (n : Nat) : (numE n).l = enc n := encE_l 9 n
theorem textE_l (s : Str) : (textE s).l = textB s.l := by
  unfold textE textB
  rw [Str.cat_l, numE_l, Str.l_length]
theorem readE_spec {most : Int} {s r : Str} {n : Nat} (h : readE most s = some (n, r)) : s.l = enc n ++ r.l ∧ n < 9223372036854775808 ∧ (n : Int) ≤ most := by
  unfold readE at h
  split at h
  · cases h
  · rename_i k hk
    simp only at h
    rcases bif_some h with ⟨h1, h2⟩ | ⟨_, h2⟩
    · injection h2 with h2
      injection h2 with h3 h4
      subst h3 h4
      simp only [Bool.and_eq_true, Nat.blt_eq] at h1
      obtain ⟨⟨⟨q1, q2⟩, q3⟩, q4⟩ := h1
      rw [Str.beq_l, decide_eq_true_eq, Str.cat_l, numE_l] at q1
      exact ⟨q1.symm, q4, by simpa [leF_eq] using q3⟩
    · cases h2
/-! ### Readers -/
theorem k_rnum {id : Nat} {most : Int} {s r : Str} {n : Nat} (hg : m.h.get id = some (.ext (.rd s))) (hr : readE most s = some (n, r)) :
    KOk ρ 202 [.ptr id 0, .int .i64 most] m (.int .i64 (.ofNat n)) (m.upd id (.ext (.rd r))) := by
  refine ⟨enters_b (by kernel_rfl), fun σ own w vs hc hH => ?_⟩
  obtain ⟨b, c, h1, h2, h0, S', p, h3, h4⟩ := hH.obj id _ hg
  obtain ⟨us, hu, rfl⟩ := ptr_args hc h1
  simp only [EV.concs, EV.conc, Option.some.injEq] at hu
  subst hu
  obtain ⟨e1, e2, e3⟩ := readE_spec hr
  refine (rdNumber_any b S' s.l p 0 most w h3).mono ?_
  rintro e w' ⟨rfl, st⟩
  rw [e1, rNum_enc n most e2 e3] at st ⊢
  exact post_turn hH h1 h2 (st.fr.mono fun k _ e => by rw [show k = b from e]; exact h2) rfl (fun mo mn => ⟨mo b h2, S', _, st.rr, fun k hk => mo k (h4 k hk)⟩)
theorem k_rtext {id : Nat} {most : Int} {s r : Str} {n : Nat} (hg : m.h.get id = some (.ext (.rd s))) (hr : readE most s = some (n, r)) (hn : n ≤ r.len) (hn2 : n ≤ 16777216) :
    KOk ρ 203 [.ptr id 0, .int .i64 most] m (.str (r.sub 0 n)) (m.upd id (.ext (.rd (r.tail n)))) := by
  refine ⟨enters_b (by kernel_rfl), fun σ own w vs hc hH => ?_⟩
  obtain ⟨b, c, h1, h2, h0, S', p, h3, h4⟩ := hH.obj id _ hg
  obtain ⟨us, hu, rfl⟩ := ptr_args hc h1
  simp only [EV.concs, EV.conc, Option.some.injEq] at hu
  subst hu
  obtain ⟨e1, e2, e3⟩ := readE_spec hr
  have t1 : (r.sub 0 n).l = r.l.take n := by rw [Str.sub_l r 0 n (Nat.zero_le _) hn, List.drop_zero]
  have t2 : (r.tail n).l = r.l.drop n := by
    unfold Str.tail
    rw [Str.sub_l r n r.len hn (Nat.le_refl _), ← Str.l_length, List.take_length]
  have tl : (r.l.take n).length = n := by rw [List.length_take, Str.l_length]; omega
  have e4 : s.l = textB (r.sub 0 n).l ++ (r.tail n).l := by
    rw [t1, t2, textB, tl, List.append_assoc, List.take_append_drop, e1]
  refine (rText_any b S' s.l p 0 most w h3).mono ?_
  rintro e w' ⟨rfl, st⟩
  rw [e4, rText_enc _ most (by rw [t1, tl]; exact e3) (by rw [t1, tl]; exact hn2)] at st ⊢
  refine post_turn hH h1 h2 (st.fr.mono fun k _ e => by rw [show k = b from e]; exact h2) ?_ (fun mo mn => ⟨mo b h2, S', _, st.rr, fun k hk => mo k (h4 k hk)⟩)
  simp only [EV.conc, tV]
  rfl
theorem k_rflag {id : Nat} {s r : Str} {x : Bool} (hg : m.h.get id = some (.ext (.rd s))) (hr : readF s = some (x, r)) :
    KOk ρ 204 [.ptr id 0] m (.bool x) (m.upd id (.ext (.rd r))) := by
  refine ⟨enters_b (by kernel_rfl), fun σ own w vs hc hH => ?_⟩
  obtain ⟨b, c, h1, h2, h0, S', p, h3, h4⟩ := hH.obj id _ hg
  obtain ⟨us, hu, rfl⟩ := ptr_args hc h1
  simp only [EV.concs, Option.some.injEq] at hu
  subst hu
  have e4 : s.l = flagB x ++ r.l := by
    unfold readF at hr
    rcases bif_some hr with ⟨_, h⟩ | ⟨hz, h⟩
    · cases h
    · have hz' : s.len ≠ 0 := fun e => by rw [e] at hz; cases hz
      have h5 := Str.at_l s 0 (by omega)
      have t2 : (s.tail 1).l = s.l.drop 1 := by
        unfold Str.tail
        rw [Str.sub_l s 1 s.len (by omega) (Nat.le_refl _), ← Str.l_length, List.take_length]
      have hcons : ∀ y, s.at 0 = y → s.l = UInt8.ofNat y :: (s.tail 1).l := fun y hy => by
        rw [t2]
        rw [hy] at h5
        cases hl : s.l with
        | nil => rw [hl] at h5; cases h5
        | cons z l => rw [hl] at h5; injection h5 with h5; subst h5; rfl
      split at h
      · rename_i h6
        injection h with h; injection h with h7 h8; subst h7 h8
        exact hcons 0 h6
      · rename_i h6
        injection h with h; injection h with h7 h8; subst h7 h8
        exact hcons 1 h6
      · cases h
  refine (rFlag_any b S' s.l p 0 w h3).mono ?_
  rintro e w' ⟨rfl, st⟩
  rw [e4, rFlag_enc x] at st ⊢
  exact post_turn hH h1 h2 (st.fr.mono fun k _ e => by rw [show k = b from e]; exact h2) rfl (fun mo mn => ⟨mo b h2, S', _, st.rr, fun k hk => mo k (h4 k hk)⟩)
theorem k_rclose {id : Nat} {s : Str} (hg : m.h.get id = some (.ext (.rd s))) (hs : s.len = 0) :
    KOk ρ 205 [.ptr id 0] m okE m := by
  refine ⟨enters_b (by kernel_rfl), fun σ own w vs hc hH => ?_⟩
  obtain ⟨b, c, h1, h2, h0, S', p, h3, h4⟩ := hH.obj id _ hg
  obtain ⟨us, hu, rfl⟩ := ptr_args hc h1
  simp only [EV.concs, Option.some.injEq] at hu
  subst hu
  refine (rClose_any b S' s.l p 0 w h3).mono ?_
  rintro e w' ⟨rfl, rfl⟩
  rw [if_pos rfl, if_neg (by rw [Str.l_length]; omega)]
  exact post_same hH (Fr.refl _ _) rfl
end
end Ev
end Go.Proofs.YtmpokappjogehaaGreatDoor

namespace Go.Proofs.YtmpokappjogehaaGreatDoor
namespace Ev
open Go Go.RowKit
section
variable {ρ : Nat → Value} {σ : Sg} {own : Ow} {w w' : World} {m m' : Mem XO}
/-- One step of a writer. -/
theorem wr_post {id b c : Nat} {s' : Str} {v v' : Value} {ev : EV} {u : Value} (hH : HRel (TX ρ) ρ σ own m w) (h1 : σ id = some (b, c)) (h2 : own b = some id) (h4 : ∀ k, v.ownBlock = some k → own k = some id)
    (st : WrStep w b v w' v' (s'.l, 0)) (hv : ev.conc σ ρ = some u) : Post (TX ρ) ρ σ own m.nx w ev (m.upd id (.ext (.wr s'))) (.returned u) w' := by
  refine post_turn hH h1 h2 (st.fr.mono fun k _ e => ?_) hv (fun mo mn => ⟨mo b h2, v', st.wr, fun k hk => ?_⟩)
  · rcases e with e | e
    · rw [e]; exact h2
    · exact h4 k e
  · rcases st.lies k hk with e | e
    · exact mo k (h4 k e)
    · refine mn k e ?_
      obtain ⟨A, n, c, e2, _, _⟩ := own_slice st.wr.own
      subst e2
      cases A with
      | none => cases hk
      | some ad =>
        simp only [Value.ownBlock, Option.some.injEq] at hk
        subst hk
        have := st.wr.own.2
        rcases this with ⟨h5, _⟩ | ⟨g, cap, cur, h5, _, h6, _⟩
        · cases h5
        · injection h5 with h5
          injection h5 with h5
          subst h5
          exact (Array.getElem?_eq_some_iff.1 h6).1
theorem k_wnum {id n : Nat} {s : Str} (hg : m.h.get id = some (.ext (.wr s))) (hl : s.len ≤ 1000000) (hn : n ≤ 9223372036854775807) :
    KOk ρ 183 [.ptr id 0, .int .i64 (.ofNat n)] m noE (m.upd id (.ext (.wr (s.cat (numE n))))) := by
  refine ⟨enters_b (by kernel_rfl), fun σ own w vs hc hH => ?_⟩
  obtain ⟨b, c, h1, h2, h0, v, h3, h4⟩ := hH.obj id _ hg
  obtain ⟨us, hu, rfl⟩ := ptr_args hc h1
  simp only [EV.concs, EV.conc, Option.some.injEq] at hu
  subst hu
  refine (wNumber_any b v s.l 0 (n : Int) w h3 (by rw [Str.l_length]; omega) (by omega)).mono ?_
  rintro e w' ⟨rfl, v', st⟩
  rw [wNumber_pos, ← numE_l, ← Str.cat_l] at st
  exact wr_post hH h1 h2 h4 st rfl
theorem k_wtext {id : Nat} {s t : Str} (hg : m.h.get id = some (.ext (.wr s))) (hl : s.len ≤ 1000000) (hn : t.len ≤ 16777216) :
    KOk ρ 184 [.ptr id 0, .str t] m noE (m.upd id (.ext (.wr (s.cat (textE t))))) := by
  refine ⟨enters_b (by kernel_rfl), fun σ own w vs hc hH => ?_⟩
  obtain ⟨b, c, h1, h2, h0, v, h3, h4⟩ := hH.obj id _ hg
  obtain ⟨us, hu, rfl⟩ := ptr_args hc h1
  simp only [EV.concs, EV.conc, Option.some.injEq] at hu
  subst hu
  refine (wText_any b v s.l 0 t.ba w h3 (by rw [Str.l_length]; omega) (by rw [Str.ba_size]; omega)).mono ?_
  rintro e w' ⟨rfl, v', st⟩
  have e1 : strL t.ba = t.l := Str.ba_l t
  rw [wText_small _ _ (by rw [Str.ba_size]; omega), e1, Str.ba_size, ← Str.l_length t] at st
  have e2 : s.l ++ (enc t.l.length ++ t.l) = (s.cat (textE t)).l := by rw [Str.cat_l, textE_l]; rfl
  rw [e2] at st
  exact wr_post hH h1 h2 h4 st rfl
theorem k_wflag {id : Nat} {s : Str} {x : Bool} (hg : m.h.get id = some (.ext (.wr s))) (hl : s.len ≤ 1000000) :
    KOk ρ 270 [.ptr id 0, .bool x] m noE (m.upd id (.ext (.wr (s.cat ⟨1, bif x then 1 else 0⟩)))) := by
  refine ⟨enters_b (by kernel_rfl), fun σ own w vs hc hH => ?_⟩
  obtain ⟨b, c, h1, h2, h0, v, h3, h4⟩ := hH.obj id _ hg
  obtain ⟨us, hu, rfl⟩ := ptr_args hc h1
  simp only [EV.concs, EV.conc, Option.some.injEq] at hu
  subst hu
  refine (wFlag_any b v s.l 0 x w h3 (by rw [Str.l_length]; omega)).mono ?_
  rintro e w' ⟨rfl, v', st⟩
  have e2 : wFlag (s.l, 0) x = ((s.cat ⟨1, bif x then 1 else 0⟩).l, 0) := by
    unfold wFlag
    rw [if_pos rfl, Str.cat_l]
    cases x <;> rfl
  rw [e2] at st
  exact wr_post hH h1 h2 h4 st rfl
theorem k_wnew : KOk ρ 182 [] m (.ptr m.nx 0) (m.new (.ext (.wr ⟨0, 0⟩))) := by
  refine ⟨enters_b (by kernel_rfl), fun σ own w vs hc hH => ?_⟩
  simp only [EV.concs, Option.some.injEq] at hc
  subst hc
  refine (NewWriter_any w).mono ?_
  rintro e w' ⟨rfl, h1, h2⟩
  obtain ⟨q1, q2⟩ := hH.took (K := fun _ => False) (m' := m.new (.ext (.wr ⟨0, 0⟩))) w.heap.size 0 (h2.mono fun k _ h => h.elim) rfl (new_mem _)
    ⟨w.heap.size, 0, Sg.add_same .., Ow.take_new (Nat.le_refl _) h1.blk.lt, Ow.take_new (Nat.le_refl _) h1.blk.lt, _, h1, fun k hk => by simp [Value.ownBlock] at hk⟩
  exact ⟨_, _, _, rfl, ptr_new .., q1, q2⟩
theorem k_rnew {id n : Nat} {s : Str} (hg : m.h.get id = some (.brow s)) (hn : n = s.len) (hl : n ≤ 1000000) :
    KOk ρ 201 [.slc id 0 n 1] m (.ptr m.nx 0) ((m.upd id .dead).new (.ext (.rd s))) := by
  refine ⟨enters_b (by kernel_rfl), fun σ own w vs hc hH => ?_⟩
  obtain ⟨b, c, full, t, fz, h1, h2, h3, h4, h5⟩ := hH.obj id _ hg
  have hc' : vs = [.slice (some ⟨b, 0, none⟩) n c] := by
    simp only [EV.concs, EV.conc, h1, Nat.zero_add, Nat.zero_mul, Nat.sub_zero, if_pos (show n ≤ c by omega), Option.some.injEq] at hc
    exact hc.symm
  subst hc'
  refine (NewReader_any (some ⟨b, 0, none⟩) n c s.l w (fun k => k = b) ⟨by rw [List.length_map, Str.l_length]; omega, fun _ => ⟨_, rfl, rfl, fun j u hu => ?_⟩⟩ (by omega)).mono ?_
  · rw [List.getElem?_map] at hu
    cases hj : s.l[j]? with
    | none => rw [hj] at hu; cases hu
    | some x =>
      rw [hj] at hu
      simp only [Option.map_some, Option.some.injEq] at hu
      subst hu
      rw [Addr.add_mid, Nat.zero_add]
      simp [World.cell?, h3, h4 j x hj, bv]
  · rintro e w' ⟨g, S, rfl, k1, k2, k3, k4⟩
    have hgl := k1.lt
    obtain ⟨q1, q2⟩ := hH.took (K := fun j => j = id) (m' := (m.upd id .dead).new (.ext (.rd s))) g 0 (k2.mono fun k _ h => h.elim) rfl (kill_mem id _)
      ⟨g, 0, Sg.add_same .., Ow.take_new k3 hgl, Ow.take_new k3 hgl, S, 0, k1, fun k hk => Ow.take_new (k4 k hk).1 (k4 k hk).2⟩
    exact ⟨_, _, _, rfl, ptr_new .., q1, q2⟩
theorem k_wbytes {id : Nat} {s : Str} (hg : m.h.get id = some (.ext (.wr s))) (hp : 0 < s.len) (hl : s.len ≤ 1000000) :
    KOk ρ 185 [.ptr id 0] m (.tup [.slc m.nx 0 s.len 1, okE]) ((m.upd id .dead).new (.brow s)) := by
  refine ⟨enters_b (by kernel_rfl), fun σ own w vs hc hH => ?_⟩
  obtain ⟨b, c, h1, h2, h0, v, h3, h4⟩ := hH.obj id _ hg
  obtain ⟨us, hu, rfl⟩ := ptr_args hc h1
  simp only [EV.concs, Option.some.injEq] at hu
  subst hu
  refine (wBytes_any b v s.l 0 w h3 (by rw [Str.l_length]; omega)).mono ?_
  rintro e w' ⟨_, h5⟩
  obtain ⟨v', rfl, hG⟩ := h5 rfl
  have hfr : Fr Nothing w w' := hG.fr.mono fun k _ h => by cases h
  rcases hG.own.2 with ⟨rfl, hz⟩ | ⟨g, cap, cur, rfl, _, k1, k2, k3, k4, k5⟩
  · rw [Str.l_length] at hz; omega
  · have hgl : g < w'.heap.size := (Array.getElem?_eq_some_iff.1 k1).1
    have hgn : w.heap.size ≤ g := by
      rcases hG.lies g rfl with h | h
      · cases h
      · exact h
    have hone : s.l.length = s.len := Str.l_length s
    obtain ⟨q1, q2⟩ := hH.took (K := fun j => j = id) (m' := (m.upd id .dead).new (.brow s)) g cap (hfr.mono fun k _ h => h.elim) rfl (kill_mem id _)
      ⟨g, cap, cur, _, _, Sg.add_same .., Ow.take_new hgn hgl, k1, fun j u hj => (by
        have h7 : (s.l.map bv)[j]? = some (Value.int .u8 (u.toNat : Nat)) := by rw [List.getElem?_map, hj]; rfl
        rw [← k5, List.getElem?_take] at h7
        split at h7
        · rw [← Array.getElem?_toList]; exact h7
        · cases h7), by omega⟩
    refine ⟨_, _, _, rfl, ?_, q1, q2⟩
    have e := slc_new (ρ := ρ) σ m.nx g cap s.len 1 (by omega)
    simp only [okE, EV.conc, EV.concs] at e ⊢
    rw [e, hone]
    rfl
theorem kCodec_ok : CallOk (TX ρ) Tryz.prog ρ kCodec := by
  intro f args m v m' h
  unfold kCodec at h
  replace h := bif_some h
  rcases h with ⟨hf, h⟩ | ⟨_, h⟩
  · obtain rfl := Nat.eq_of_beq_eq_true hf
    split at h
    · split at h
      · rename_i hg
        split at h
        · rename_i hr
          injection h with h; injection h with h1 h2; subst h1 h2
          exact k_rnum hg hr
        · cases h
      · cases h
    · cases h
  replace h := bif_some h
  rcases h with ⟨hf, h⟩ | ⟨_, h⟩
  · obtain rfl := Nat.eq_of_beq_eq_true hf
    split at h
    · split at h
      · rename_i hg
        split at h
        · rename_i t r hr
          injection h with h; injection h with h1 h2; subst h1 h2
          unfold readT at hr
          split at hr
          · cases hr
          · rename_i hr'
            replace hr := bif_some hr
            rcases hr with ⟨hb, hr⟩ | ⟨_, hr⟩
            · injection hr with hr; injection hr with h1 h2; subst h1 h2
              simp only [Bool.and_eq_true, Nat.ble_eq] at hb
              exact k_rtext hg hr' hb.1 hb.2
            · cases hr
        · cases h
      · cases h
    · cases h
  replace h := bif_some h
  rcases h with ⟨hf, h⟩ | ⟨_, h⟩
  · obtain rfl := Nat.eq_of_beq_eq_true hf
    split at h
    · split at h
      · rename_i hg
        split at h
        · rename_i hr
          injection h with h; injection h with h1 h2; subst h1 h2
          exact k_rflag hg hr
        · cases h
      · cases h
    · cases h
  replace h := bif_some h
  rcases h with ⟨hf, h⟩ | ⟨_, h⟩
  · obtain rfl := Nat.eq_of_beq_eq_true hf
    split at h
    · split at h
      · rename_i hg
        injection h with h; injection h with h1 h2; subst h1 h2
        exact k_rclose hg rfl
      · cases h
    · cases h
  replace h := bif_some h
  rcases h with ⟨hf, h⟩ | ⟨_, h⟩
  · obtain rfl := Nat.eq_of_beq_eq_true hf
    split at h
    · split at h
      · rename_i hg
        replace h := bif_some h
        rcases h with ⟨hb, h⟩ | ⟨_, h⟩
        · injection h with h; injection h with h1 h2; subst h1 h2
          simp only [Bool.and_eq_true, Nat.ble_eq] at hb
          exact k_rnew hg (Nat.eq_of_beq_eq_true hb.1) hb.2
        · cases h
      · cases h
    · cases h
  replace h := bif_some h
  rcases h with ⟨hf, h⟩ | ⟨_, h⟩
  · obtain rfl := Nat.eq_of_beq_eq_true hf
    split at h
    · injection h with h; injection h with h1 h2; subst h1 h2
      exact k_wnew
    · cases h
  replace h := bif_some h
  rcases h with ⟨hf, h⟩ | ⟨_, h⟩
  · obtain rfl := Nat.eq_of_beq_eq_true hf
    split at h
    · split at h
      · rename_i hg
        replace h := bif_some h
        rcases h with ⟨hb, h⟩ | ⟨_, h⟩
        · injection h with h; injection h with h1 h2; subst h1 h2
          simp only [Bool.and_eq_true, Nat.ble_eq] at hb
          exact k_wnum hg hb.1 hb.2
        · cases h
      · cases h
    · cases h
  replace h := bif_some h
  rcases h with ⟨hf, h⟩ | ⟨_, h⟩
  · obtain rfl := Nat.eq_of_beq_eq_true hf
    split at h
    · split at h
      · rename_i hg
        replace h := bif_some h
        rcases h with ⟨hb, h⟩ | ⟨_, h⟩
        · injection h with h; injection h with h1 h2; subst h1 h2
          simp only [Bool.and_eq_true, Nat.ble_eq] at hb
          exact k_wtext hg hb.1 hb.2
        · cases h
      · cases h
    · cases h
  replace h := bif_some h
  rcases h with ⟨hf, h⟩ | ⟨_, h⟩
  · obtain rfl := Nat.eq_of_beq_eq_true hf
    split at h
    · split at h
      · rename_i hg
        replace h := bif_some h
        rcases h with ⟨hb, h⟩ | ⟨_, h⟩
        · injection h with h; injection h with h1 h2; subst h1 h2
          exact k_wflag hg (Nat.le_of_ble_eq_true hb)
        · cases h
      · cases h
    · cases h
  replace h := bif_some h
  rcases h with ⟨hf, h⟩ | ⟨_, h⟩
  · obtain rfl := Nat.eq_of_beq_eq_true hf
    split at h
    · split at h
      · rename_i hg
        replace h := bif_some h
        rcases h with ⟨hb, h⟩ | ⟨_, h⟩
        · injection h with h; injection h with h1 h2; subst h1 h2
          simp only [Bool.and_eq_true, Nat.ble_eq, Nat.blt_eq] at hb
          exact k_wbytes hg hb.1 hb.2
        · cases h
      · cases h
    · cases h
  cases h
end
end Ev
end Go.Proofs.YtmpokappjogehaaGreatDoor

namespace Go.Proofs.YtmpokappjogehaaGreatDoor
namespace Ev
open Go Go.RowKit
section
variable {ρ : Nat → Value} {σ : Sg} {own : Ow} {w w' : World} {m m' : Mem XO}
theorem str_eq (a b : Str) : a.beq b = decide (a.ba = b.ba) := by
  rw [Str.beq_l]
  have e : (a.l = b.l) ↔ (a.ba = b.ba) := ⟨fun h => Str.ext_l (by rw [h, ← Str.ba_l]), fun h => by rw [← Str.ba_l, h, Str.ba_l]⟩
  exact decide_eq_decide.2 e
theorem ename_beq (a b : EName) : a.beq b = decide (b.nv = a.nv) := by
  obtain ⟨k, o, n, i, t⟩ := a
  obtain ⟨k', o', n', i', t'⟩ := b
  have f : ∀ x y : Int, eqF x y = decide (y = x) := fun x y => by
    rw [eqF_eq]
    by_cases h : y = x
    · subst h; simp
    · simp [h, Ne.symm h]
  have g : ∀ x y : Str, x.beq y = decide (y.ba = x.ba) := fun x y => by
    rw [str_eq]
    exact decide_eq_decide.2 eq_comm
  simp only [EName.beq, EName.nv, f, g, NameV.mk.injEq]
  by_cases h1 : k' = k <;> by_cases h2 : n' = n <;> by_cases h3 : i' = i <;> by_cases h4 : o'.ba = o.ba <;> by_cases h5 : t'.ba = t.ba <;> simp [h1, h2, h3, h4, h5]
theorem concs_app2 : ∀ (a b : List EV), EV.concs σ ρ (a ++ b) = match EV.concs σ ρ a, EV.concs σ ρ b with
    | some x, some y => some (x ++ y)
    | _, _ => none
  | [], b => by
    simp only [List.nil_append, EV.concs]
    cases EV.concs σ ρ b <;> rfl
  | e :: a, b => by
    simp only [List.cons_append, EV.concs, concs_app2 a b]
    cases EV.conc σ ρ e <;> cases EV.concs σ ρ a <;> cases EV.concs σ ρ b <;> rfl
theorem allO_cons {α : Type} {x : Option α} {l : List (Option α)} {r : List α} (h : allO (x :: l) = some r) : ∃ a q, x = some a ∧ allO l = some q ∧ r = a :: q := by
  cases x with
  | none => simp [allO] at h
  | some a =>
    simp only [allO] at h
    cases h1 : allO l with
    | none => rw [h1] at h; cases h
    | some q => rw [h1] at h; injection h with h; exact ⟨a, q, rfl, rfl, h.symm⟩
theorem cv_nm {c : ECall} {x : CV} (h : c.cv ρ = some x) : x.nm = c.nm.nv ∧ c.value.conc (fun _ => none) ρ = some (.string x.value) ∧ x.absent = c.absent := by
  unfold ECall.cv at h
  split at h
  · rename_i s hs
    injection h with h
    subst h
    exact ⟨rfl, hs, rfl⟩
  · cases h
theorem lastC_rev (n : EName) (A : List CV) : ∀ {l : List ECall} {L : List CV}, allO (l.map (ECall.cv ρ)) = some L → (lastOf n l = none ∧ lastC (A ++ L.reverse) n.nv = lastC A n.nv) ∨ ∃ c x, lastOf n l = some c ∧ c.cv ρ = some x ∧ lastC (A ++ L.reverse) n.nv = some x
  | [], L, h => by
    simp only [List.map_nil, allO, Option.some.injEq] at h
    subst h
    exact .inl ⟨rfl, by simp⟩
  | c :: l, L, h => by
    obtain ⟨x, q, h1, h2, rfl⟩ := allO_cons h
    have e : A ++ (x :: q).reverse = (A ++ q.reverse) ++ [x] := by simp
    rw [e, lastC_snoc]
    obtain ⟨e1, _, _⟩ := cv_nm h1
    simp only [lastOf, ename_beq]
    by_cases hn : c.nm.nv = n.nv
    · rw [if_pos (e1.trans hn), show decide (c.nm.nv = n.nv) = true by simpa using hn]
      exact .inr ⟨c, x, rfl, h1, rfl⟩
    · rw [if_neg (fun h => hn (e1.symm.trans h)), show decide (c.nm.nv = n.nv) = false by simpa using hn]
      exact lastC_rev n A h2
theorem lastC_nil (n : NameV) : lastC [] n = none := rfl
theorem find_spec (n : EName) {bs : Option (Nat × List ECall)} {l : List ECall} {Lb L : List CV} (hb : BaseOk ρ bs Lb) (hL : allO (l.map (ECall.cv ρ)) = some L) :
    (findE n bs l = none ∧ lastC (Lb ++ L.reverse) n.nv = none) ∨ ∃ c x, findE n bs l = some c ∧ c.cv ρ = some x ∧ lastC (Lb ++ L.reverse) n.nv = some x := by
  unfold findE
  rcases lastC_rev n Lb hL with ⟨h1, h2⟩ | ⟨c, x, h1, h2, h3⟩
  · rw [h1]
    cases bs with
    | none =>
      have hb' : Lb = [] := hb
      subst hb'
      exact .inl ⟨rfl, h2⟩
    | some p =>
      obtain ⟨i, l0⟩ := p
      obtain ⟨L0, q1, q2, _⟩ := hb
      rw [h2, q2]
      rcases lastC_rev n [] q1 with ⟨h3, h4⟩ | ⟨c, x, h3, h4, h5⟩
      · exact .inl ⟨h3, by simpa [lastC_nil] using h4⟩
      · exact .inr ⟨c, x, h3, h4, by simpa using h5⟩
  · rw [h1]
    exact .inr ⟨c, x, rfl, h2, h3⟩
theorem base_len {bs : Option (Nat × List ECall)} {Lb : List CV} (hb : BaseOk ρ bs Lb) : Lb.length ≤ 100000 := by
  cases bs with
  | none =>
    have hb' : Lb = [] := hb
    subst hb'
    exact Nat.zero_le _
  | some p => obtain ⟨_, _, _, _, h⟩ := hb; exact h
theorem allO_length {α β : Type} {f : β → Option α} : ∀ {l : List β} {L : List α}, allO (l.map f) = some L → L.length = l.length
  | [], L, h => by simp only [List.map_nil, allO, Option.some.injEq] at h; subst h; rfl
  | b :: l, L, h => by
    obtain ⟨x, q, _, h2, rfl⟩ := allO_cons h
    rw [List.length_cons, List.length_cons, allO_length h2]
theorem nameOf_conc {cs : List EV} {n : EName} (h : nameOf cs = some n) : EV.concs σ ρ cs = some n.nv.cells := by
  unfold nameOf at h
  split at h
  · injection h with h
    subst h
    rfl
  · cases h
theorem vb_lt {v k : Nat} {L : List CV} (h : ViewC w v L) (hk : VB w v k) : k < w.heap.size := by
  obtain ⟨s, mr, ml, cv, rl, ll, hV⟩ := h
  rcases VB.of hV.blk hk with rfl | h | h | h
  · exact hV.blk.lt
  · injection h with h; injection h with h; subst h; exact hV.reads.lt
  · rcases hV.calls.2 with ⟨rfl, _⟩ | ⟨g, cap, cur, rfl, _, h6, _⟩
    · cases h
    · simp only [Value.ownBlock, Option.some.injEq] at h
      subst h
      exact (Array.getElem?_eq_some_iff.1 h6).1
  · injection h with h; injection h with h; subst h; exact hV.last.lt
theorem view_post {id b c s : Nat} {bs : Option (Nat × List ECall)} {l' : List ECall} {Lb L' : List CV} {ev : EV} {u : Value} (hH : HRel (TX ρ) ρ σ own m w) (h1 : σ id = some (b, c)) (h2 : own b = some id) (hk : ∀ k, VB w b k → own k = some id) (hs : own s = some id)
    (hB : VBase w b s) (hst : VStep b w w') (hV' : ViewC w' b (Lb ++ L'.reverse)) (hbs : BaseOk ρ bs Lb) (hL' : allO (l'.map (ECall.cv ρ)) = some L') (hv : ev.conc σ ρ = some u) : Post (TX ρ) ρ σ own m.nx w ev (m.upd id (.ext (.view bs l'))) (.returned u) w' :=
  post_turn hH h1 h2 (hst.fr.mono fun k _ e => hk k e) hv fun mo mn => ⟨Lb, L', s, hbs, hL', hV', hst.base s hB, fun k e => (hst.lies k e).elim (fun h => mo k (hk k h)) (fun h => mn k h (vb_lt hV' e)), mo s hs⟩
theorem okIn_spec {n : EName} (h : okIn n = true) : okNm n.nv = true ∧ n.nv.owner.size ≤ 1099511627776 ∧ n.nv.text.size ≤ 1099511627776 := by
  unfold okIn at h
  simp only [Bool.and_eq_true, Nat.ble_eq] at h
  refine ⟨h.2, ?_, ?_⟩
  · show n.owner.ba.size ≤ _
    rw [Str.ba_size]; omega
  · show n.text.ba.size ≤ _
    rw [Str.ba_size]; omega
theorem k_get {id : Nat} {cs : List EV} {n : EName} {bs : Option (Nat × List ECall)} {l : List ECall} {v : EV} (hg : m.h.get id = some (.ext (.view bs l))) (hn : nameOf cs = some n) (ho : okIn n = true) (hl : l.length ≤ 1000)
    (hv : (match findE n bs l with | some c => EV.tup [c.value, .bool (!c.absent)] | none => .tup [.str ⟨0, 0⟩, .bool false]) = v) : KOk ρ 101 [.ptr id 0, .agg cs] m v (m.upd id (.ext (.view bs l))) := by
  refine ⟨enters_b (by kernel_rfl), fun σ own w vs hc hH => ?_⟩
  obtain ⟨b, c, h1, h2, Lb, L, s, hbs, hL, hV, hB, hk, hs⟩ := hH.obj id _ hg
  obtain ⟨us, hu, rfl⟩ := ptr_args hc h1
  simp only [EV.concs, EV.conc, nameOf_conc hn, Option.some.injEq] at hu
  subst hu
  obtain ⟨o1, o2, o3⟩ := okIn_spec ho
  have hlen : (Lb ++ L.reverse).length ≤ 1048576 := by
    have := base_len hbs
    have := allO_length hL
    rw [List.length_append, List.length_reverse]
    omega
  refine (Get_any n.nv b (Lb ++ L.reverse) w hV hH.g o1 hlen o2 o3).mono ?_
  rintro e w' ⟨rfl, hV', hst⟩
  refine view_post hH h1 h2 hk hs hB hst hV' hbs hL ?_
  subst hv
  rcases find_spec n hbs hL with ⟨q1, q2⟩ | ⟨d, x, q1, q2, q3⟩
  · rw [q1]
    have e1 : valL (Lb ++ L.reverse) n.nv = ByteArray.empty := by unfold valL; rw [q2]
    have e2 : hasL (Lb ++ L.reverse) n.nv = false := by unfold hasL; rw [q2]
    rw [e1, e2]
    rfl
  · rw [q1]
    have e1 : valL (Lb ++ L.reverse) n.nv = x.value := by unfold valL; rw [q3]
    have e2 : hasL (Lb ++ L.reverse) n.nv = !x.absent := by unfold hasL; rw [q3]
    rw [e1, e2]
    obtain ⟨_, r2, r3⟩ := cv_nm q2
    have r4 := EV.conc_mono (σ := fun _ => none) (σ' := σ) (fun i p h => by cases h) ρ _ _ r2
    simp only [EV.conc, EV.concs, r4, r3]
theorem k_call {id : Nat} {k o n i t v : EV} {a : Bool} {nm : EName} {bs : Option (Nat × List ECall)} {l : List ECall} (hg : m.h.get id = some (.ext (.view bs l))) (hn : nameOf [k, o, n, i, t] = some nm) (hv : isStr v = true) (hl : l.length ≤ 1000) :
    KOk ρ 187 [.ptr id 0, .agg [k, o, n, i, t, v, .bool a]] m noE (m.upd id (.ext (.view bs (⟨nm, v, a⟩ :: l)))) := by
  refine ⟨enters_b (by kernel_rfl), fun σ own w vs hc hH => ?_⟩
  obtain ⟨b, c, h1, h2, Lb, L, s, hbs, hL, hV, hB, hk, hs⟩ := hH.obj id _ hg
  obtain ⟨us, hu, rfl⟩ := ptr_args hc h1
  have hvc : ∀ y, v.conc σ ρ = some y → ∃ x, y = .string x ∧ v.conc (fun _ => none) ρ = some (.string x) := fun y hy => by
    cases v <;> simp only [isStr, Bool.false_eq_true] at hv
    · simp only [EV.conc, Option.some.injEq] at hy ⊢
      exact ⟨_, hy.symm, rfl⟩
    · simp only [EV.conc] at hy ⊢
      split at hy
      · split at hy
        · injection hy with hy
          rename_i h5
          exact ⟨_, hy.symm, by rw [if_pos h5]⟩
        · cases hy
      · cases hy
  have hnc := nameOf_conc (σ := σ) (ρ := ρ) hn
  have hlen : (Lb ++ L.reverse).length ≤ 1048576 := by
    have := base_len hbs
    have := allO_length hL
    rw [List.length_append, List.length_reverse]
    omega
  obtain ⟨y, hy, hus⟩ : ∃ y, v.conc σ ρ = some y ∧ us = [.agg (nm.nv.cells ++ [y, .bool a]).toArray] := by
    have e : [k, o, n, i, t, v, .bool a] = [k, o, n, i, t] ++ [v, .bool a] := rfl
    rw [e] at hu
    have hx := concs_app2 (σ := σ) (ρ := ρ) [k, o, n, i, t] [v, .bool a]
    rw [hnc] at hx
    generalize [k, o, n, i, t] ++ [v, .bool a] = q at hu hx
    cases hvv : v.conc σ ρ with
    | none => simp only [EV.concs, hvv] at hx; simp [EV.concs, EV.conc, hx] at hu
    | some y =>
      simp only [EV.concs, hvv, EV.conc] at hx
      simp only [EV.concs, EV.conc, hx, Option.some.injEq] at hu
      exact ⟨y, rfl, hu.symm⟩
  subst hus
  obtain ⟨x, rfl, hx⟩ := hvc y hy
  refine (call_any ⟨nm.nv, x, a⟩ b (Lb ++ L.reverse) w hV hlen).mono ?_
  rintro e w' ⟨rfl, hV', hst⟩
  refine view_post (L' := ⟨nm.nv, x, a⟩ :: L) hH h1 h2 hk hs hB hst ?_ hbs ?_ rfl
  · rw [List.reverse_cons, ← List.append_assoc]
    exact hV'
  · have e1 : ECall.cv ρ ⟨nm, v, a⟩ = some ⟨nm.nv, x, a⟩ := by unfold ECall.cv; rw [hx]
    simp only [List.map_cons, e1, allO, hL]
end
end Ev
end Go.Proofs.YtmpokappjogehaaGreatDoor

namespace Go.Proofs.YtmpokappjogehaaGreatDoor
namespace Ev
open Go Go.RowKit
theorem SNew_new (w : World) : Calls Tryz.prog 13 #[] w (fun e w' => ∃ s, e = .returned (.pointer (some ⟨s, 0, none⟩)) ∧ StH w' s .leaf ∧ Fr Nothing w w' ∧ w.heap.size ≤ s) := by
  go_enter Tryz.func13, Tryz.ntmps13
  go_wp2_with (refine wpList_boxBlk rfl 107 (.tmp 1) rfl #[.pointer none] rfl ?_)
  intro w1 n1
  have N1 := Lib.hid n1
  clear n1
  go_wp2
  go_ret
  exact ⟨_, rfl, ⟨none, N1.out.blk, rfl⟩, N1.out.fr, Nat.le_refl _⟩
section
variable {ρ : Nat → Value} {σ : Sg} {own : Ow} {w w' : World} {m m' : Mem XO}
theorem k_mark {id : Nat} {l : List ECall} (hg : m.h.get id = some (.ext (.view none l))) : KOk ρ 134 [.ptr id 0] m (.int .i64 (.ofNat l.length)) m := by
  refine ⟨enters_b (by kernel_rfl), fun σ own w vs hc hH => ?_⟩
  obtain ⟨b, c, h1, h2, Lb, L, s, hbs, hL, hV, hB, hk, hs⟩ := hH.obj id _ hg
  obtain ⟨us, hu, rfl⟩ := ptr_args hc h1
  simp only [EV.concs, Option.some.injEq] at hu
  subst hu
  have hbs' : Lb = [] := hbs
  subst hbs'
  refine (Mark_any b _ w hV).mono ?_
  rintro e w' ⟨rfl, rfl⟩
  refine post_same hH (Fr.refl _ _) ?_
  rw [List.nil_append, List.length_reverse, allO_length hL]
  rfl
theorem k_mark2 {id i : Nat} {l0 : List ECall} (hg : m.h.get id = some (.ext (.view (some (i, l0)) []))) : KOk ρ 134 [.ptr id 0] m (.sint .i64 i 0 100000) m := by
  refine ⟨enters_b (by kernel_rfl), fun σ own w vs hc hH => ?_⟩
  obtain ⟨b, c, h1, h2, Lb, L, s, hbs, hL, hV, hB, hk, hs⟩ := hH.obj id _ hg
  obtain ⟨us, hu, rfl⟩ := ptr_args hc h1
  simp only [EV.concs, Option.some.injEq] at hu
  subst hu
  obtain ⟨L0, q1, q2, q3, q4⟩ := hbs
  simp only [List.map_nil, allO, Option.some.injEq] at hL
  subst hL
  refine (Mark_any b _ w hV).mono ?_
  rintro e w' ⟨rfl, rfl⟩
  refine post_same hH (Fr.refl _ _) ?_
  simp only [EV.conc, q3, List.reverse_nil, List.append_nil]
  rw [if_pos ⟨by omega, by omega⟩]
theorem k_check {cs : List EV} {n : EName} (hn : nameOf cs = some n) (ho : okIn n = true) : KOk ρ 186 [.agg cs] m okE m := by
  refine ⟨enters_b (by kernel_rfl), fun σ own w vs hc hH => ?_⟩
  simp only [EV.concs, EV.conc, nameOf_conc hn, Option.some.injEq] at hc
  subst hc
  obtain ⟨o1, o2, o3⟩ := okIn_spec ho
  refine (Check_any n.nv w hH.g o2 o3).mono ?_
  intro e w' h
  obtain ⟨rfl, h2⟩ := okNm_zero o1 h
  exact post_same hH h2 rfl
theorem k_valid {s : Str} (hs : s.len ≤ 1000000) : KOk ρ 98 [.str s] m (.bool (validO s.ba)) m := by
  refine ⟨enters_b (by kernel_rfl), fun σ own w vs hc hH => ?_⟩
  simp only [EV.concs, EV.conc, Option.some.injEq] at hc
  subst hc
  refine (Valid_any s.ba w (by rw [Str.ba_size]; omega)).mono ?_
  rintro e w' ⟨rfl, h2⟩
  exact post_same hH h2 rfl
theorem ints_conc (σ : Sg) (ρ : Nat → Value) : ∀ l : List Int, EV.concs σ ρ (l.map fun n => .int .i64 n) = some (l.map (Value.int .i64))
  | [] => rfl
  | x :: l => by simp only [List.map_cons, EV.concs, EV.conc, ints_conc σ ρ l]
theorem k_ords {s : Str} {x : Int} {l : List Int} (hs : s.len ≤ 1000000) (hv : validO s.ba = true) (ho : ordsO s.ba = x :: l) :
    KOk ρ 303 [.str s] m (.slc m.nx 0 (l.length + 1) 1) (m.new (.row 3 1 ((x :: l).map fun n => .int .i64 n))) := by
  refine ⟨enters_b (by kernel_rfl), fun σ own w vs hc hH => ?_⟩
  simp only [EV.concs, EV.conc, Option.some.injEq] at hc
  subst hc
  refine (Ordinals_any s.ba w (by rw [Str.ba_size]; omega) hv).mono ?_
  rintro e w' ⟨v, rfl, hG⟩
  rw [ho] at hG
  have hfr : Fr Nothing w w' := hG.fr.mono fun k _ h => by cases h
  rcases hG.own.2 with ⟨_, hz⟩ | ⟨g, cap, cur, rfl, _, k1, k2, k3, k4, k5⟩
  · simp at hz
  · have hgl : g < w'.heap.size := (Array.getElem?_eq_some_iff.1 k1).1
    have hgn : w.heap.size ≤ g := by
      rcases hG.lies g rfl with h | h
      · cases h
      · exact h
    obtain ⟨q1, q2⟩ := hH.took (K := fun _ => False) (m' := m.new (.row 3 1 ((x :: l).map fun n => .int .i64 n))) g cap (hfr.mono fun k _ h => h.elim) rfl (new_mem _)
      ⟨g, cap, _, cur, Sg.add_same .., Ow.take_new hgn hgl, ints_conc _ _ (x :: l), k1, fun j u hj => (by
        rw [← k5, List.getElem?_take] at hj
        split at hj
        · rw [← Array.getElem?_toList]; exact hj
        · cases hj), k4, by unfold maxLen at k3; omega⟩
    refine ⟨_, _, _, rfl, ?_, q1, q2⟩
    rw [List.length_cons] at k2 ⊢
    exact slc_new (ρ := ρ) σ m.nx g cap (l.length + 1) 1 k2
theorem k_snew : KOk ρ 13 [] m (.ptr m.nx 0) (m.new (.ext .state)) := by
  refine ⟨enters_b (by kernel_rfl), fun σ own w vs hc hH => ?_⟩
  simp only [EV.concs, Option.some.injEq] at hc
  subst hc
  refine (SNew_new w).mono ?_
  rintro e w' ⟨s, rfl, hS, h2, h3⟩
  have hgl : s < w'.heap.size := by
    obtain ⟨a, hb, _⟩ := hS
    exact hb.lt
  obtain ⟨q1, q2⟩ := hH.took (K := fun _ => False) (m' := m.new (.ext .state)) s 0 (h2.mono fun k _ h => h.elim) rfl (new_mem _)
    ⟨s, 0, Sg.add_same .., Ow.take_new h3 hgl, Ow.take_new h3 hgl, hS⟩
  exact ⟨_, _, _, rfl, ptr_new .., q1, q2⟩
theorem k_vnew {id : Nat} (hg : m.h.get id = some (.ext .state)) : KOk ρ 12 [.ptr id 0] m (.ptr m.nx 0) ((m.upd id .dead).new (.ext (.view none []))) := by
  refine ⟨enters_b (by kernel_rfl), fun σ own w vs hc hH => ?_⟩
  obtain ⟨b, c, h1, h2, h0, hS⟩ := hH.obj id _ hg
  obtain ⟨us, hu, rfl⟩ := ptr_args hc h1
  simp only [EV.concs, Option.some.injEq] at hu
  subst hu
  refine (VNew_any b w hS).mono ?_
  rintro e w' ⟨v, rfl, hV, hB, hf, hk⟩
  have hvl : ∀ k, VB w' v k → (own.take (fun j => j = id) m.nx w.heap.size w'.heap.size) k = some m.nx := fun k h => Ow.take_new (hk k h) (vb_lt hV h)
  obtain ⟨q1, q2⟩ := hH.took (K := fun j => j = id) (m' := (m.upd id .dead).new (.ext (.view none []))) v 0 (hf.mono fun k _ h => h.elim) rfl (kill_mem id _)
    ⟨v, 0, Sg.add_same .., hvl v (.inl rfl), [], [], b, rfl, rfl, hV, hB, hvl, Ow.take_kill (hH.ow b id h2).1 h2 rfl⟩
  exact ⟨_, _, _, rfl, ptr_new .., q1, q2⟩
end
end Ev
end Go.Proofs.YtmpokappjogehaaGreatDoor
