/- A region that draws its order, in a round of a loop over an iterator: its first operations only read, the last ones stand in a row; no operation is a call. Plain lemmas over any program. -/
import Derived.Test.YtejajafbopabmaaDoorBase
import Derived.StillTailTactics
import Derived.OwnWalkIn
import Derived.OrdersIn
import Derived.TacticsInMore
namespace Go.Proofs.YtejajafbopabmaaDoor
open Go.RowKit

/-- Operations that make no call and defer nothing. -/
def quietOp : Op → Bool
  | .move _ => true
  | .assign _ => true
  | .load _ _ => true
  | .store _ _ _ => true
  | .binOp _ _ _ _ _ => true
  | .indexAddr _ _ _ => true
  | .fieldAddr _ _ _ => true
  | _ => false

theorem val_next {P : Program} {s : Sem Value} {w w' : World} {x : Next} (hr : (do let v ← s; pure (Next.value v) : Sem Next).run P w = .ok x w') : ∃ v, x = .value v := by
  rw [Sem.run_bind] at hr
  cases h : s.run P w with
  | ok v w2 => rw [h] at hr; simp [Result.andThen] at hr; exact ⟨v, hr.1.symm⟩
  | halt a b => rw [h] at hr; simp [Result.andThen] at hr
theorem unit_next {P : Program} {s : Sem Unit} {w w' : World} {x : Next} (hr : (do s; pure Next.skip : Sem Next).run P w = .ok x w') : x = .skip := by
  rw [Sem.run_bind] at hr
  cases h : s.run P w with
  | ok v w2 => rw [h] at hr; simp [Result.andThen] at hr; exact hr.1.symm
  | halt a b => rw [h] at hr; simp [Result.andThen] at hr

theorem quiet_next {P : Program} {o : Oper} {ρ : Operand → Value} {w w' : World} {x : Next} (h : quietOp o.op = true) (hr : (execOp ρ o).run P w = .ok x w') : (∃ v, x = .value v) ∨ x = .skip := by
  unfold execOp at hr
  cases ho : o.op <;> simp only [ho, quietOp] at h hr <;> first | (cases h; done) | skip
  all_goals
    first
      | exact .inl (val_next hr)
      | exact .inr (unit_next hr)
      | (rw [Sem.run_pure] at hr; injection hr with h1 _; exact .inl ⟨_, h1.symm⟩)

theorem quiet_about {P : Program} {o : Oper} {ρ : Operand → Value} {w : World} (h : quietOp o.op = true) : o.about P w ρ = none := by
  unfold Oper.about
  cases ho : o.op <;> first | rfl | (rw [ho] at h; cases h)

theorem quiet_wpIn {F : Fence} {n : Nat} {P : Program} {o : Oper} {a : Act} {w : World} {K K' : Act → World → Prop} {Q : Exit → Act → World → Prop} (h : quietOp o.op = true) (hK : ∀ a w, K a w → K' a w) (hw : o.wp P a w K Q) : o.wpIn F n P a w K' Q := by
  refine ⟨fun f hf => (by rw [quiet_about h] at hf; cases hf), ?_⟩
  rw [Oper.semAt_plain F _ _ (fun c hc => by rw [hc] at h; cases h)]
  unfold Oper.wp at hw
  cases hr : (execOp a.eval o).run P w with
  | ok x w2 =>
    rw [hr] at hw
    rcases quiet_next h hr with ⟨v, rfl⟩ | rfl
    · exact hK _ _ hw
    · exact hK _ _ hw
  | halt x w2 =>
    rw [hr] at hw
    cases x <;> first | exact hw | exact hw.elim

theorem wpAnyIn_of_wpAny {F : Fence} {n : Nat} {P : Program} {md : Region.Mode} {ops : Array Oper} {Q : Exit → Act → World → Prop} (hp : ∀ (i : Nat) (o : Oper), ops[i]? = some o → quietOp o.op = true) (hQ : ¬ LetsOut Q) :
    ∀ (fuel : Nat) (listed : Array Bool) (a : Act) (w : World), wpAny P md ops Q fuel listed a w → wpAnyIn F n P md ops Q fuel listed a w
  | 0, _, _, _, h => h
  | fuel + 1, listed, a, w, h => by
    refine ⟨h.1, fun i hi => ?_⟩
    have h2 := h.2 i hi
    unfold wpOp at h2
    unfold wpOpIn
    cases ho : ops[i]? with
    | none => rw [ho] at h2; exact wpAnyIn_of_wpAny hp hQ fuel _ _ _ h2
    | some o =>
      rw [ho] at h2
      simp only at h2 ⊢
      split at h2
      · rename_i hw
        rw [if_pos hw]
        rcases h2 with h3 | h3
        · exact quiet_wpIn (hp i o ho) (fun a' w' => wpAnyIn_of_wpAny hp hQ fuel _ a' w') h3
        · exact absurd h3.2 hQ
      · rename_i hw
        rw [if_neg hw]
        exact ⟨fun f hf => (by rw [quiet_about (hp i o ho)] at hf; cases hf), wpAnyIn_of_wpAny hp hQ fuel _ _ _ h2⟩

theorem wpIn_region_still_tail {F : Fence} {m : Nat} {P : Program} {id : Nat} {Q : Exit → Act → World → Prop} {a : Act} {w : World} {l : List Oper} (n : Nat) (hm : P.follows .mixedOrders = true) (hB : Region.lexTailB .any l.toArray n = true) (hp : (l.all fun o => quietOp o.op) = true)
    (h : wpStill P l.toArray w.drew (fun a' => wpList P l.toArray (fun e a' w' => Q e a' w' ∧ e = .normal) (l.drop n) a' w.drew) (l.take n) a) : (Code.region id l.toArray true).wpIn F m P Q a w := by
  simp only [Region.lexTailB, Bool.and_eq_true, decide_eq_true_eq] at hB
  obtain ⟨⟨⟨⟨hsel, hn⟩, hs⟩, hc⟩, hlex⟩ := hB
  have hn' : n < l.length := by simpa using hn
  have htl : (l.take n).length = n := by simp; omega
  have hdl : (l.drop n).length = l.toArray.size - n := by simp
  have inv0 : HeadInv .any l.toArray n (Array.replicate l.toArray.size false) :=
    ⟨by simp, fun j oj _ hl => (by rw [getD_replicate_false] at hl; cases hl), fun t _ ht => getD_in (by simpa using ht) (getD_replicate_false _ _)⟩
  have H := wpAnyL_lex (md := .any) (g := l.toArray.size - n) hsel hs hc hn (l.take n) 0 _ a (fun j hj => by
    have hj' : j < n := by rw [htl] at hj; exact hj
    simp [hj']) (by simpa using htl) inv0 (by rw [htl]; exact hlex) h
  have H2 := wpAny_of_head (Q' := fun e a' w' => Q e a' w' ∧ e = .normal) (g := l.toArray.size - n) (fun listed a' hL => by
    have := wpAny_of_seq (md := .any) (Q' := fun e a' w' => Q e a' w' ∧ e = .normal) (l.drop n) n listed a' w.drew (fun j => by simp [List.getElem?_drop]) (by rw [hdl]; exact hL.1) hL.2
    rwa [hdl] at this) _ _ _ H
  rw [htl, show n + (l.toArray.size - n) = l.toArray.size by omega] at H2
  have H3 : (Code.region id l.toArray true).wpIn F m P (fun e a' w' => Q e a' w' ∧ e = .normal) a w := by
    refine wpIn_region_any hm (wpAnyIn_of_wpAny (fun i o ho => ?_) ?_ _ _ _ _ H2)
    · exact List.all_eq_true.1 hp o (List.mem_of_getElem? (by simpa using ho))
    · rintro ⟨a', w', hq⟩
      exact absurd hq.2 (by simp)
  exact Code.wpIn_mono (fun _ _ _ hq => hq.1) H3
end Go.Proofs.YtejajafbopabmaaDoor
