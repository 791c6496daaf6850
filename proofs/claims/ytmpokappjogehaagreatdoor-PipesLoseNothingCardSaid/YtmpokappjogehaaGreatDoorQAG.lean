/- Steps of the proof of LawPipesLoseNothing: contracts of the functions that the law reaches, for every world that holds what each of them asks. -/
import Derived.Test.YtmpokappjogehaaGreatDoorQAF
import Derived.Laws.AppendOwn
import Derived.Laws.MakeOwn
import Derived.Lib.ConvBytes
import Derived.Great.BuildSlice
set_option linter.unusedVariables false
set_option linter.unusedSimpArgs false
namespace Go.Proofs.YtmpokappjogehaaGreatDoor
namespace Ev
open Go Go.RowKit

section
variable {X : Type} {T : Itp X} {P : Program} {ρ : Nat → Value} {σ σ' σ'' : Sg} {own own' own'' : Ow} {w w' w'' : World} {m m' : Mem X} {a : Act} {fr : Tr EV} {n : Nat}
/-- The operation yields a value that the evaluator knows, and leaves the world as it is. -/
def Ylds (P : Program) (o : Oper) (a : Act) (w : World) (σ : Sg) (ρ : Nat → Value) (e : EV) : Prop := ∃ v, (e = .any ∨ e.conc σ ρ = some v) ∧ (execOp a.eval o).run P w = .ok (.value v) w
theorem isSome_of_slcOf {t e : TypeId} {s : Nat} (h : slcOf P t = some (e, s)) : P.underlying t = some (.slice e) ∧ szOf P e = some s := by
  unfold slcOf at h
  split at h
  · rename_i e' hu
    cases hs : szOf P e' with
    | none => rw [hs] at h; cases h
    | some z =>
      rw [hs] at h
      simp only [Option.some.injEq, Prod.mk.injEq] at h
      obtain ⟨rfl, rfl⟩ := h
      exact ⟨hu, hs⟩
  · cases h
theorem arrOf_spec {t : TypeId} {len s : Nat} {b : Bool} (h : arrOf P t = some (len, s, b)) : ∃ e, P.underlying t = some (.array len e) ∧ szOf P e = some s ∧ aggOf P e = b := by
  unfold arrOf at h
  split at h
  · rename_i k e' hu
    cases hs : szOf P e' with
    | none => rw [hs] at h; cases h
    | some z =>
      rw [hs] at h
      simp only [Option.some.injEq, Prod.mk.injEq] at h
      obtain ⟨rfl, rfl, rfl⟩ := h
      exact ⟨e', hu, hs, rfl⟩
  · cases h
theorem fldOf_spec {t : TypeId} {i o s : Nat} {b : Bool} (h : fldOf P t i = some (o, s, b)) : ∃ fs f, P.underlying t = some (.struct fs) ∧ fs[i]? = some f ∧ f.offset = o ∧ szOf P f.type = some s ∧ aggOf P f.type = b := by
  unfold fldOf at h
  split at h
  · rename_i fs hu
    cases hf : fs.toList[i]? with
    | none => rw [hf] at h; cases h
    | some f =>
      rw [hf] at h
      simp only at h
      cases hs : szOf P f.type with
      | none => rw [hs] at h; cases h
      | some z =>
        rw [hs] at h
        simp only [Option.some.injEq, Prod.mk.injEq] at h
        obtain ⟨rfl, rfl, rfl⟩ := h
        exact ⟨fs, f, hu, by rw [← hf, Array.getElem?_toList], rfl, hs, rfl⟩
  · cases h
theorem byteSlc_spec {t : TypeId} (h : byteSlc P t = true) : ∃ e, P.underlying t = some (.slice e) ∧ P.underlying e = some (.int .u8) := by
  unfold byteSlc at h
  split at h
  · rename_i e hu
    split at h
    · rename_i he
      exact ⟨e, hu, he⟩
    · cases h
  · cases h
theorem any_ne_conc {e : EV} {v : Value} (h : e.conc σ ρ = some v) : e ≠ .any := fun h' => by subst h'; cases h
/-- One value that is known gives the value. -/
theorem Ylds.mk {o : Oper} {s : Sem Value} {e : EV} {v : Value} (h : execOp a.eval o = (do pure (.value (← s)))) (hs : s.run P w = .ok v w) (hc : e.conc σ ρ = some v) : Ylds P o a w σ ρ e := ⟨v, .inr hc, exec_val h hs⟩
theorem still_pick {o : Oper} {c x y : Operand} {e : EV} (ho : o.op = .pick c x y) (h : stillEv P o fr m = some e) (hF : FRel ρ σ fr n a) : Ylds P o a w σ ρ e := by
  unfold stillEv at h
  rw [ho] at h
  simp only at h
  split at h
  · rename_i hc
    have h1 := opd_sound hc hF
    simp only [EV.conc, Option.some.injEq] at h1
    refine Ylds.mk (s := do pure (if ← asBool (a.eval c) then a.eval x else a.eval y)) ?_ (v := a.eval x) ?_ (opd_sound h hF)
    · simp only [execOp, ho, bind_assoc, pure_bind]
    · rw [← h1]; rfl
  · rename_i hc
    have h1 := opd_sound hc hF
    simp only [EV.conc, Option.some.injEq] at h1
    refine Ylds.mk (s := do pure (if ← asBool (a.eval c) then a.eval x else a.eval y)) ?_ (v := a.eval y) ?_ (opd_sound h hF)
    · simp only [execOp, ho, bind_assoc, pure_bind]
    · rw [← h1]; rfl
  · cases h
theorem still_move {o : Oper} {x : Operand} {e : EV} (ho : o.op = .move x ∨ o.op = .assign x) (h : opd fr x = some e) (hF : FRel ρ σ fr n a) : Ylds P o a w σ ρ e := by
  refine ⟨a.eval x, .inr (opd_sound h hF), ?_⟩
  rcases ho with ho | ho <;> simp only [execOp, ho] <;> rfl
theorem still_build {o : Oper} {t : TypeId} {ps : Array (Nat × Operand)} {e : EV} (ho : o.op = .build t ps) (h : stillEv P o fr m = some e) (hF : FRel ρ σ fr n a) : Ylds P o a w σ ρ e := by
  unfold stillEv at h
  rw [ho] at h
  simp only at h
  split at h
  · rename_i z l pl h1 h2 h3
    cases h4 : fillEv pl z.cells l with
    | none => rw [h4] at h; cases h
    | some cs =>
      rw [h4] at h
      simp only [Option.map_some, Option.some.injEq] at h
      subst h
      obtain ⟨v, h5, h6⟩ := build_sound (P := P) h1 h2 h3 h4 hF w
      exact Ylds.mk (s := Instr.build t (ps.map fun x => (x.1, a.eval x.2))) (by simp only [execOp, ho]) h6 h5
  · cases h
theorem still_load {o : Oper} {t : TypeId} {x : Operand} {e : EV} (ho : o.op = .load t x) (h : stillEv P o fr m = some e) (hF : FRel ρ σ fr n a) (hH : HRel T ρ σ own m w) : Ylds P o a w σ ρ e := by
  unfold stillEv at h
  rw [ho] at h
  simp only at h
  split at h
  · rename_i id off hx
    split at h
    · rename_i cs s hc hs
      obtain ⟨b, c, hb, hv⟩ := ptr_shape (opd_sound hx hF)
      obtain ⟨b', c', vs, h1, h2, h3⟩ := cells_sound hc hH
      rw [hb] at h1
      injection h1 with h1
      injection h1 with h1 h1'
      subst h1
      obtain ⟨v, h4, h5⟩ := loadVar_sound hs (szOf_und hs) h h2 h3
      exact Ylds.mk (s := Instr.loadAt t (a.eval x)) (by simp only [execOp, ho]) (by simp only [Instr.loadAt, hv, Instr.sureAddr, Sem.run_bind, Sem.run_pure, Result.andThen_ok, h5]) h4
    · cases h
  · cases h
theorem still_nilCheck {o : Oper} {x : Operand} {e : EV} (ho : o.op = .nilCheck x) (h : stillEv P o fr m = some e) (hF : FRel ρ σ fr n a) : Ylds P o a w σ ρ e := by
  unfold stillEv at h
  rw [ho] at h
  simp only at h
  split at h
  · rename_i id off hx
    have h1 := opd_sound hx hF
    injection h with h
    subst h
    obtain ⟨b, c, hb, hv⟩ := ptr_shape h1
    refine ⟨_, .inr h1, ?_⟩
    simp only [execOp, ho, hv]
    rfl
  · rename_i f l c hx
    have h1 := opd_sound hx hF
    injection h with h
    subst h
    have h2 := h1
    simp only [EV.conc] at h1
    split at h1
    · injection h1 with h1
      refine ⟨_, .inr h2, ?_⟩
      simp only [execOp, ho, ← h1]
      rfl
    · cases h1
  · cases h
theorem still_bin {o : Oper} {op : BinOp} {t yt : TypeId} {x y : Operand} {e : EV} (ho : o.op = .binOp op t x y yt) (h : stillEv P o fr m = some e) (hF : FRel ρ σ fr n a) : Ylds P o a w σ ρ e := by
  unfold stillEv at h
  rw [ho] at h
  simp only at h
  split at h
  · rename_i ex ey hx hy
    obtain ⟨v, h1, h2⟩ := binEv_sound (X := x) (Y := y) h (opd_sound hx hF) (opd_sound hy hF) w
    exact Ylds.mk (s := do eqGuard op t x y (a.eval x) (a.eval y); binOp op t (a.eval x) (a.eval y)) (by simp only [execOp, ho]) h2 h1
  · cases h
theorem still_un {o : Oper} {op : UnOp} {t : TypeId} {x : Operand} {e : EV} (ho : o.op = .unOp op t x) (h : stillEv P o fr m = some e) (hF : FRel ρ σ fr n a) : Ylds P o a w σ ρ e := by
  unfold stillEv at h
  rw [ho] at h
  simp only at h
  split at h
  · rename_i ex hx
    obtain ⟨v, h1, h2⟩ := unEv_sound (P := P) h (opd_sound hx hF) w
    exact Ylds.mk (s := Op.unary op (a.eval x)) (by simp only [execOp, ho]) h2 h1
  · cases h
theorem still_conv {o : Oper} {src dst : TypeId} {x : Operand} {e : EV} (ho : o.op = .convert src dst x) (h : stillEv P o fr m = some e) (hF : FRel ρ σ fr n a) (hH : HRel T ρ σ own m w) : Ylds P o a w σ ρ e := by
  unfold stillEv at h
  rw [ho] at h
  simp only at h
  split at h
  · rename_i id k hx
    split at h
    · rename_i s hd hb
      split at h
      · rename_i hl hsl
        injection h with h
        subst h
        have hl' := Nat.eq_of_beq_eq_true hl
        obtain ⟨e', hu, he⟩ := byteSlc_spec hsl
        obtain ⟨b, c, h1, h2, hv⟩ := slc_shape (opd_sound hx hF)
        obtain ⟨b', c', full, t', fz, h3, h4, h5, h6, h7⟩ := hH.obj id _ hb
        rw [h1] at h3
        injection h3 with h3
        injection h3 with h3 h3'
        subst h3
        refine Ylds.mk (s := convert src dst (a.eval x)) (by simp only [execOp, ho]) (v := .string ⟨s.l.toArray⟩) ?_ ?_
        · rw [hv, ← hl', ← Str.l_length s]
          refine run_convert_bytes_back w src dst e' _ _ s.l hu he hd (fun j hj => ?_)
          rw [Addr.add_mid]
          have := h6 j s.l[j] (List.getElem?_eq_getElem hj)
          simp [World.cell?, h5, this]
        · simp only [EV.conc]
          rfl
      · cases h
    · cases h
  · rename_i ex _ hx
    obtain ⟨v, h1, h2⟩ := convEv_sound h (opd_sound hx hF) w
    exact Ylds.mk (s := convert src dst (a.eval x)) (by simp only [execOp, ho]) h2 h1
  · cases h
theorem still_makeFunc {o : Oper} {fn : Fn} {first cap : Array Operand} {e : EV} (ho : o.op = .makeFunc fn first cap) (h : stillEv P o fr m = some e) (hF : FRel ρ σ fr n a) : Ylds P o a w σ ρ e := by
  unfold stillEv at h
  rw [ho] at h
  simp only at h
  split at h
  · rename_i f
    split at h
    · rename_i x y hx hy
      injection h with h
      subst h
      refine Ylds.mk (s := Instr.makeFunc (.func f) (first.map a.eval) (cap.map a.eval)) (by simp only [execOp, ho]) rfl ?_
      simp only [EV.conc, opds_sound hx hF, opds_sound hy hF]
      congr 2 <;> (apply Array.ext'; simp)
    · cases h
  · cases h
theorem still_slice {o : Oper} {t : TypeId} {x : Operand} {lo hi mx : Option Operand} {e : EV} (ho : o.op = .slice t x lo hi mx) (h : stillEv P o fr m = some e) (hF : FRel ρ σ fr n a) : Ylds P o a w σ ρ e := by
  unfold stillEv at h
  rw [ho] at h
  simp only at h
  split at h
  · split at h
    · rename_i id off hx
      split at h
      · rename_i n s b ha
        injection h with h
        subst h
        obtain ⟨b', c, hb, hv⟩ := ptr_shape (opd_sound hx hF)
        obtain ⟨el, hu, hs, _⟩ := arrOf_spec ha
        refine Ylds.mk (s := Instr.sliceAt t (a.eval x) none none none) (by simp only [execOp, ho, Option.map_none]) (v := .slice (some ⟨b', off, none⟩) n n) ?_ ?_
        · simp only [Instr.sliceAt, Sem.run_bind, run_underlying hu, Result.andThen_ok, hv, Instr.sureAddr, Instr.sliceBounds, Sem.run_pure, sizeOf_run hs, Option.isSome_none, Bool.false_eq_true, if_false, Nat.sub_zero, Addr.add_mid, Nat.zero_mul, Nat.add_zero, ite_self]
        · simp only [EV.conc, hb]
      · cases h
    · rename_i ex hx
      obtain ⟨u, h1, h2⟩ := sliceEv_sound h (opd_sound hx hF) hF w
      exact ⟨u, h1, exec_val (s := Instr.sliceAt t (a.eval x) (lo.map a.eval) (hi.map a.eval) none) (by simp only [execOp, ho, Option.map_none]) h2⟩
    · cases h
  · cases h
theorem still_fieldAddr {o : Oper} {t : TypeId} {x : Operand} {i : Nat} {e : EV} (ho : o.op = .fieldAddr t x i) (h : stillEv P o fr m = some e) (hF : FRel ρ σ fr n a) : Ylds P o a w σ ρ e := by
  unfold stillEv at h
  rw [ho] at h
  simp only at h
  split at h
  · rename_i id off of s b hx hf
    split at h
    · cases h
    · rename_i z
      injection h with h
      subst h
      obtain ⟨b, c, hb, hv⟩ := ptr_shape (opd_sound hx hF)
      obtain ⟨fs, f, hu, hfi, hof, hs, _⟩ := fldOf_spec hf
      refine Ylds.mk (s := Instr.fieldAt t (a.eval x) i) (by simp only [execOp, ho]) (v := .pointer (some ⟨b, off + of, none⟩)) ?_ ?_
      · simp only [Instr.fieldAt, Sem.run_bind, run_underlying hu, Result.andThen_ok, hfi, hv, Instr.sureAddr, Sem.run_pure, fieldPlace, sizeOf_run hs]
        rw [if_neg (by omega)]
        simp only [Sem.run_pure, Result.andThen_ok, hof, Addr.add_mid]
      · simp only [EV.conc, hb]
  · cases h
theorem still_field {o : Oper} {t : TypeId} {x : Operand} {i : Nat} {e : EV} (ho : o.op = .field t x i) (h : stillEv P o fr m = some e) (hF : FRel ρ σ fr n a) : Ylds P o a w σ ρ e := by
  unfold stillEv at h
  rw [ho] at h
  simp only at h
  split at h
  · rename_i cs of s b hx hf
    obtain ⟨fs, f, hu, hfi, hof, hs, hb⟩ := fldOf_spec hf
    have h1 := opd_sound hx hF
    simp only [EV.conc] at h1
    cases h2 : EV.concs σ ρ cs with
    | none => rw [h2] at h1; cases h1
    | some vs =>
      rw [h2] at h1
      injection h1 with h1
      obtain ⟨v, h3, h4⟩ := partOf_sound hb hs h h2 (szOf_und hs) w
      refine Ylds.mk (s := Instr.field t (a.eval x) i) (by simp only [execOp, ho]) ?_ h3
      simp only [Instr.field, Sem.run_bind, run_underlying hu, Result.andThen_ok, hfi, ← h1, asAgg, Sem.run_pure, hof, h4]
  · cases h
theorem still_indexAddr {o : Oper} {t : TypeId} {x i : Operand} {e : EV} (ho : o.op = .indexAddr t x i) (h : stillEv P o fr m = some e) (hF : FRel ρ σ fr n a) : Ylds P o a w σ ρ e := by
  unfold stillEv at h
  rw [ho] at h
  simp only at h
  split at h
  · rename_i id off k z hx hi
    split at h
    · rename_i len s b ha
      cases hz : idx z len with
      | none => rw [hz] at h; cases h
      | some j =>
        rw [hz] at h
        simp only [Option.map_some, Option.some.injEq] at h
        subst h
        obtain ⟨rfl, hj⟩ := idx_sound hz
        obtain ⟨b', c, hb, hv⟩ := ptr_shape (opd_sound hx hF)
        obtain ⟨el, hu, hs, _⟩ := arrOf_spec ha
        have h1 := opd_sound hi hF
        simp only [EV.conc, Option.some.injEq] at h1
        refine Ylds.mk (s := Instr.indexAt t (a.eval x) (a.eval i)) (by simp only [execOp, ho]) (v := .pointer (some ⟨b', off + j * s, none⟩)) ?_ ?_
        · have hb2 : (0 : Int) ≤ (j : Int) ∧ (j : Int) < (len : Nat) := by omega
          simp only [Instr.indexAt, ← h1, asIntOf, Sem.run_bind, Sem.run_pure, Result.andThen_ok, run_underlying hu, hv, Instr.sureAddr, if_pos hb2, sizeOf_run hs]
          simp [Addr.add_mid]
        · simp only [EV.conc, hb]
    · cases h
  · rename_i id off len sz k z hx hi
    split at h
    · rename_i el s ha
      split at h
      · rename_i hsz
        have hsz' := Nat.eq_of_beq_eq_true hsz
        subst hsz'
        cases hz : idx z len with
        | none => rw [hz] at h; cases h
        | some j =>
          rw [hz] at h
          simp only [Option.map_some, Option.some.injEq] at h
          subst h
          obtain ⟨rfl, hj⟩ := idx_sound hz
          obtain ⟨b', c, hb, hc, hv⟩ := slc_shape (opd_sound hx hF)
          obtain ⟨hu, hs⟩ := isSome_of_slcOf ha
          have h1 := opd_sound hi hF
          simp only [EV.conc, Option.some.injEq] at h1
          refine Ylds.mk (s := Instr.indexAt t (a.eval x) (a.eval i)) (by simp only [execOp, ho]) (v := .pointer (some ⟨b', off * s + j * s, none⟩)) ?_ ?_
          · have hb2 : (0 : Int) ≤ (j : Int) ∧ (j : Int) < (len : Nat) := by omega
            simp only [Instr.indexAt, ← h1, asIntOf, Sem.run_bind, Sem.run_pure, Result.andThen_ok, run_underlying hu, hv, if_pos hb2, sizeOf_run hs]
            simp [Addr.add_mid]
          · simp only [EV.conc, hb]
      · cases h
    · cases h
  · rename_i id off len sz k z hx hi
    split at h
    · rename_i el s ha
      split at h
      · rename_i hsz
        have hsz' := Nat.eq_of_beq_eq_true hsz
        subst hsz'
        cases hz : idx z len with
        | none => rw [hz] at h; cases h
        | some j =>
          rw [hz] at h
          simp only [Option.map_some, Option.some.injEq] at h
          subst h
          obtain ⟨rfl, hj⟩ := idx_sound hz
          obtain ⟨b', c, hb, hv⟩ := asl_shape (opd_sound hx hF)
          obtain ⟨hu, hs⟩ := isSome_of_slcOf ha
          have h1 := opd_sound hi hF
          simp only [EV.conc, Option.some.injEq] at h1
          refine Ylds.mk (s := Instr.indexAt t (a.eval x) (a.eval i)) (by simp only [execOp, ho]) (v := .pointer (some ⟨b', off + j * s, none⟩)) ?_ ?_
          · have hb2 : (0 : Int) ≤ (j : Int) ∧ (j : Int) < (len : Nat) := by omega
            simp only [Instr.indexAt, ← h1, asIntOf, Sem.run_bind, Sem.run_pure, Result.andThen_ok, run_underlying hu, hv, if_pos hb2, sizeOf_run hs]
            simp [Addr.add_mid]
          · simp only [EV.conc, hb]
      · cases h
    · cases h
  · cases h
theorem still_index {o : Oper} {t : TypeId} {x i : Operand} {e : EV} (ho : o.op = .index t x i) (h : stillEv P o fr m = some e) (hF : FRel ρ σ fr n a) : Ylds P o a w σ ρ e := by
  unfold stillEv at h
  rw [ho] at h
  simp only at h
  split at h
  · rename_i cs k z hx hi
    split at h
    · rename_i len s b ha
      cases hz : idx z len with
      | none => rw [hz] at h; cases h
      | some j =>
        rw [hz] at h
        simp only at h
        obtain ⟨rfl, hj⟩ := idx_sound hz
        obtain ⟨el, hu, hs, hb⟩ := arrOf_spec ha
        have h1 := opd_sound hi hF
        have h2 := opd_sound hx hF
        simp only [EV.conc, Option.some.injEq] at h1
        simp only [EV.conc] at h2
        cases h3 : EV.concs σ ρ cs with
        | none => rw [h3] at h2; cases h2
        | some vs =>
          rw [h3] at h2
          injection h2 with h2
          obtain ⟨v, h4, h5⟩ := partOf_sound hb hs h h3 (szOf_und hs) w
          refine Ylds.mk (s := Instr.index t (a.eval x) (a.eval i)) (by simp only [execOp, ho]) ?_ h4
          have hb2 : (0 : Int) ≤ (j : Int) ∧ (j : Int) < (len : Nat) := by omega
          simp only [Instr.index, ← h1, ← h2, asIntOf, Sem.run_bind, Sem.run_pure, Result.andThen_ok, run_underlying hu, if_pos hb2, sizeOf_run hs]
          simpa using h5
    · cases h
  · rename_i s k z hx hi
    split at h
    · rename_i hu
      cases hz : idx z s.len with
      | none => rw [hz] at h; cases h
      | some j =>
        rw [hz] at h
        simp only [Option.map_some, Option.some.injEq] at h
        subst h
        obtain ⟨rfl, hj⟩ := idx_sound hz
        have h1 := opd_sound hi hF
        have h2 := opd_sound hx hF
        simp only [EV.conc, Option.some.injEq] at h1 h2
        refine Ylds.mk (s := Instr.index t (a.eval x) (a.eval i)) (by simp only [execOp, ho]) (v := .int .u8 ((UInt8.ofNat (s.at j)).toNat : Nat)) ?_ ?_
        · have hb2 : (0 : Int) ≤ (j : Int) := by omega
          simp only [Instr.index, ← h1, ← h2, asIntOf, Sem.run_bind, Sem.run_pure, Result.andThen_ok, run_underlying hu, if_pos hb2]
          rw [show ((j : Int).toNat) = j by simp, Str.at_ba s j hj]
          rfl
        · simp only [EV.conc]
          have : (UInt8.ofNat (s.at j)).toNat = s.at j := by have := s.at_lt j; simp; omega
          rw [this]
          rfl
    · cases h
  · cases h
theorem still_extract {o : Oper} {x : Operand} {i : Nat} {e : EV} (ho : o.op = .extract x i) (h : stillEv P o fr m = some e) (hF : FRel ρ σ fr n a) : Ylds P o a w σ ρ e := by
  unfold stillEv at h
  rw [ho] at h
  simp only at h
  split at h
  · rename_i vs hx
    have h1 := opd_sound hx hF
    simp only [EV.conc] at h1
    cases h2 : EV.concs σ ρ vs with
    | none => rw [h2] at h1; cases h1
    | some us =>
      rw [h2] at h1
      injection h1 with h1
      obtain ⟨v, h3, h4⟩ := concs_get h2 i e h
      refine Ylds.mk (s := Instr.extract (a.eval x) i) (by simp only [execOp, ho]) (v := v) ?_ h4
      simp only [Instr.extract, ← h1, List.getElem?_toArray, h3]
      rfl
  · cases h
theorem opds_list {l : Array Operand} {es : List EV} (h : opds fr l.toList = some es) (hF : FRel ρ σ fr n a) : EV.concs σ ρ es = some (l.map a.eval).toList := by
  rw [opds_sound h hF, Array.toList_map]
theorem concs_one {e : EV} {vs : List Value} (h : EV.concs σ ρ [e] = some vs) : ∃ v, vs = [v] ∧ e.conc σ ρ = some v := by
  obtain ⟨v, r, rfl, h1, h2⟩ := concs_cons h
  simp only [EV.concs, Option.some.injEq] at h2
  subst h2
  exact ⟨v, rfl, h1⟩
theorem concs_two {e e' : EV} {vs : List Value} (h : EV.concs σ ρ [e, e'] = some vs) : ∃ v v', vs = [v, v'] ∧ e.conc σ ρ = some v ∧ e'.conc σ ρ = some v' := by
  obtain ⟨v, r, rfl, h1, h2⟩ := concs_cons h
  obtain ⟨v', rfl, h3⟩ := concs_one h2
  exact ⟨v, v', rfl, h1, h3⟩
theorem run_builtin {o : Oper} {c : Call} {b : Builtin} {s : Sem Value} {v : Value} (ho : o.op = .call c) (hc : c.callee = .builtin b) (hb : ∀ ty cs, builtin b c.argTypes ty cs (c.args.map a.eval) = (do pure (.value (← s)))) (hs : s.run P w = .ok v w') : (execOp a.eval o).run P w = .ok (.value v) w' := by
  simp only [execOp, ho, resolve, hc, Sem.run_bind, Sem.run_pure, Result.andThen_ok, invoke, hb, hs]
theorem still_len {o : Oper} {c : Call} {e x : EV} {t : TypeId} (ho : o.op = .call c) (hc : c.callee = .builtin .len) (ht : c.argTypes.toList = [t]) (hx : opds fr c.args.toList = some [x]) (hF : FRel ρ σ fr n a)
    (h : lenEv P t x = some e) : Ylds P o a w σ ρ e := by
  obtain ⟨v, hv, hcv⟩ := concs_one (opds_list hx hF)
  have e1 : c.argTypes[0]? = some t := by rw [← Array.getElem?_toList, ht]; rfl
  have e2 : (c.args.map a.eval)[0]? = some v := by rw [← Array.getElem?_toList, hv]; rfl
  have go : ∀ u, e.conc σ ρ = some u → (Builtin.len_ c.argTypes 0 (c.args.map a.eval)).run P w = .ok u w → Ylds P o a w σ ρ e := fun u h1 h2 =>
    ⟨u, .inr h1, run_builtin ho hc (s := Builtin.len_ c.argTypes 0 (c.args.map a.eval)) (fun _ _ => rfl) h2⟩
  unfold lenEv at h
  split at h
  · rename_i s hu
    injection h with h; subst h
    simp only [EV.conc, Option.some.injEq] at hcv
    subst hcv
    refine go _ rfl ?_
    simp only [Builtin.len_, e1, e2, Sem.run_bind, run_underlying hu, Result.andThen_ok, Str.ba_size]
    rfl
  · rename_i i lo hi hu
    injection h with h; subst h
    have hcv' := hcv
    simp only [EV.conc] at hcv
    split at hcv
    · rename_i b hb
      split at hcv
      · rename_i hr
        injection hcv with hcv
        subst hcv
        refine go (.int .i64 (b.size : Nat)) (by simp only [EV.conc, hb, if_pos hr]) ?_
        simp only [Builtin.len_, e1, e2, Sem.run_bind, run_underlying hu, Result.andThen_ok]
        rfl
      · cases hcv
    · cases hcv
  · rename_i k el hu
    injection h with h; subst h
    refine go _ rfl ?_
    simp only [Builtin.len_, e1, e2, Sem.run_bind, run_underlying hu, Result.andThen_ok]
    rfl
  · rename_i el id off k sz hu
    injection h with h; subst h
    obtain ⟨b, c', _, _, rfl⟩ := slc_shape hcv
    refine go _ rfl ?_
    simp only [Builtin.len_, e1, e2, Sem.run_bind, run_underlying hu, Result.andThen_ok]
    rfl
  · rename_i el hu
    injection h with h; subst h
    simp only [EV.conc, Option.some.injEq] at hcv
    subst hcv
    refine go _ rfl ?_
    simp only [Builtin.len_, e1, e2, Sem.run_bind, run_underlying hu, Result.andThen_ok]
    rfl
  · rename_i el id off k sz hu
    injection h with h; subst h
    obtain ⟨b, c', _, rfl⟩ := asl_shape hcv
    refine go _ rfl ?_
    simp only [Builtin.len_, e1, e2, Sem.run_bind, run_underlying hu, Result.andThen_ok]
    rfl
  · cases h
theorem still_min {o : Oper} {c : Call} {e : EV} {k k' : IntKind} {x y : Int} (ho : o.op = .call c) (hc : c.callee = .builtin .min) (hx : opds fr c.args.toList = some [.int k x, .int k' y]) (hF : FRel ρ σ fr n a)
    (h : some (EV.int k (match ltF y x with | true => y | false => x)) = some e) : Ylds P o a w σ ρ e := by
  obtain ⟨v, v', hv, h1, h2⟩ := concs_two (opds_list hx hF)
  simp only [EV.conc, Option.some.injEq] at h1 h2
  subst h1 h2
  injection h with h
  subst h
  refine ⟨_, .inr rfl, run_builtin ho hc (s := Builtin.min_ c.argTypes 0 (c.args.map a.eval)) (fun _ _ => rfl) ?_⟩
  unfold Builtin.min_
  rw [hv]
  simp only [List.foldlM_cons, List.foldlM_nil, Builtin.min2, Sem.run_bind, Sem.run_pure, Result.andThen_ok]
  rw [ltF_eq]
  by_cases hlt : y < x
  · rw [decide_eq_true hlt, if_pos hlt]
  · rw [decide_eq_false hlt, if_neg hlt]
theorem stillEv_sound {o : Oper} {e : EV} (h : stillEv P o fr m = some e) (hF : FRel ρ σ fr n a) (hH : HRel T ρ σ own m w) : Ylds P o a w σ ρ e := by
  cases ho : o.op with
  | move x => exact still_move (.inl ho) (by unfold stillEv at h; rw [ho] at h; exact h) hF
  | assign x => exact still_move (.inr ho) (by unfold stillEv at h; rw [ho] at h; exact h) hF
  | pick c x y => exact still_pick ho h hF
  | build t ps => exact still_build ho h hF
  | load t x => exact still_load ho h hF hH
  | nilCheck x => exact still_nilCheck ho h hF
  | binOp op t x y yt => exact still_bin ho h hF
  | unOp op t x => exact still_un ho h hF
  | convert src dst x => exact still_conv ho h hF hH
  | makeFunc fn first cap => exact still_makeFunc ho h hF
  | slice t x lo hi mx => exact still_slice ho h hF
  | fieldAddr t x i => exact still_fieldAddr ho h hF
  | field t x i => exact still_field ho h hF
  | indexAddr t x i => exact still_indexAddr ho h hF
  | index t x i => exact still_index ho h hF
  | extract x i => exact still_extract ho h hF
  | call c =>
    unfold stillEv at h
    rw [ho] at h
    simp only at h
    split at h
    · rename_i hc
      split at h
      · rename_i t x ht hx
        exact still_len ho hc ht hx hF h
      · cases h
    · rename_i hc
      split at h
      · rename_i k x k' y hx
        split at h
        · exact still_min ho hc hx hF h
        · cases h
      · cases h
    · cases h
  | _ => unfold stillEv at h; rw [ho] at h; cases h
end
end Ev
end Go.Proofs.YtmpokappjogehaaGreatDoor

namespace Go.Proofs.YtmpokappjogehaaGreatDoor
namespace Ev
open Go Go.RowKit

def Sg.add (σ : Sg) (i : Nat) (p : Nat × Nat) : Sg := fun j => if j = i then some p else σ j
def Ow.add (own : Ow) (b i : Nat) : Ow := fun k => if k = b then some i else own k
section
variable {X : Type} {T : Itp X} {P : Program} {ρ : Nat → Value} {σ σ' σ'' : Sg} {own own' own'' : Ow} {w w' w'' : World} {m m' : Mem X} {a : Act} {fr : Tr EV} {n : Nat}
theorem Sg.add_same (σ : Sg) (i : Nat) (p : Nat × Nat) : σ.add i p i = some p := if_pos rfl
theorem Sg.add_le {i : Nat} {p : Nat × Nat} (h : σ i = none) : Sg.le σ (σ.add i p) := fun j q hj => by
  unfold Sg.add
  rw [if_neg (fun e => by subst e; rw [h] at hj; cases hj)]
  exact hj
theorem Ow.add_same (own : Ow) (b i : Nat) : own.add b i b = some i := if_pos rfl
/-- A new object in a new block. -/
theorem HRel.new (hH : HRel T ρ σ own m w) (c : Nat) (hf : Fr Nothing w w') (hs : w.heap.size < w'.heap.size) {ob : LObj X} (ho : ORel T ρ (σ.add m.nx (w.heap.size, c)) (own.add w.heap.size m.nx) m.nx w' ob) :
    HRel T ρ (σ.add m.nx (w.heap.size, c)) (own.add w.heap.size m.nx) (m.new ob) w' ∧ Stp σ own m.nx w (σ.add m.nx (w.heap.size, c)) (own.add w.heap.size m.nx) (m.nx + 1) w' := by
  have hle : Sg.le σ (σ.add m.nx (w.heap.size, c)) := Sg.add_le (hH.dom _ (Nat.le_refl _))
  refine ⟨⟨fun i hi => ?_, fun b r hb => ?_, fun b hb => ?_, T.gst w w' hH.g (fun k hk => hf.block k (hH.tab k hk).1 (fun x => x)), fun i o hg => ?_⟩, ⟨fun i hi => if_neg (by omega), Nat.le_succ _, hf.weak, fun b hb hn => ?_⟩⟩
  · have hi' : m.nx + 1 ≤ i := hi
    unfold Sg.add
    rw [if_neg (by omega)]
    exact hH.dom i (by omega)
  · unfold Ow.add at hb
    have e : (m.new ob).nx = m.nx + 1 := rfl
    split at hb
    · rename_i hbe
      injection hb with hb
      subst hbe hb
      exact ⟨hs, by rw [e]; omega⟩
    · obtain ⟨h1, h2⟩ := hH.ow b r hb
      exact ⟨by omega, by rw [e]; omega⟩
  · obtain ⟨h1, h2⟩ := hH.tab b hb
    refine ⟨by omega, ?_⟩
    unfold Ow.add
    rw [if_neg (by omega)]
    exact h2
  · rcases Tr.get_put hg with ⟨rfl, rfl⟩ | ⟨hne, hg'⟩
    · exact ho
    · refine (hH.obj i o hg').keep hle (fun b => ?_) (fun b hb => hf.block b (hH.ow b i hb).1 (fun x => x)) hf.size
      unfold Ow.add
      constructor
      · intro hb
        have := (hH.ow b i hb).1
        rw [if_neg (by omega)]
        exact hb
      · intro hb
        split at hb
        · injection hb with hb
          exact absurd hb.symm hne
        · exact hb
  · unfold Ow.add
    rw [if_neg (by omega)]
    exact hn
/-- An object's cells are turned. -/
theorem HRel.upd (hH : HRel T ρ σ own m w) {i b : Nat} {o0 : LObj X} (hg : m.h.get i = some o0) (hb : own b = some i) (hf : Fr (fun k => k = b) w w') {ob : LObj X} (ho : ORel T ρ σ own i w' ob) :
    HRel T ρ σ own (m.upd i ob) w' ∧ Stp σ own m.nx w σ own m.nx w' := by
  refine ⟨⟨hH.dom, fun b' r h => ?_, fun b' h => ?_, T.gst w w' hH.g (fun k hk => hf.block k (hH.tab k hk).1 (fun e => ?_)), fun j o hj => ?_⟩, ⟨fun _ _ => rfl, Nat.le_refl _, hf.mono (fun k _ e => ⟨i, by rw [e]; exact hb⟩), fun _ _ h => h⟩⟩
  · obtain ⟨h1, h2⟩ := hH.ow b' r h
    exact ⟨Nat.lt_of_lt_of_le h1 hf.size, h2⟩
  · obtain ⟨h1, h2⟩ := hH.tab b' h
    exact ⟨Nat.lt_of_lt_of_le h1 hf.size, h2⟩
  · subst e
    rw [(hH.tab k hk).2] at hb
    cases hb
  · rcases Tr.get_put hj with ⟨rfl, rfl⟩ | ⟨hne, hj'⟩
    · exact ho
    · refine (hH.obj j o hj').keep (fun _ _ h => h) (fun _ => Iff.rfl) (fun k hk => hf.block k (hH.ow k j hk).1 (fun e => ?_)) hf.size
      subst e
      rw [hb] at hk
      injection hk with hk
      exact hne hk.symm
theorem cells_length {e : EV} {v : Value} (h : e.conc σ ρ = some v) : v.cells.size = e.cells.length := by
  rw [← Array.length_toList, concs_length (cells_conc h)]
theorem alloc_fr (w : World) (o : Obj) : Fr Nothing w (w.alloc o) := (Fr.refl _ _).alloc o
theorem alloc_size (w : World) (o : Obj) : w.heap.size < (w.alloc o).heap.size := by
  show w.heap.size < (w.heap.push o).size
  simp
theorem alloc_at (w : World) (o : Obj) : (w.alloc o).heap[w.heap.size]? = some o := by
  show (w.heap.push o)[w.heap.size]? = some o
  simp
/-- What an operation that makes an object leaves. -/
def Makes (T : Itp X) (P : Program) (ρ : Nat → Value) (σ : Sg) (own : Ow) (m : Mem X) (o : Oper) (a : Act) (w : World) (e : EV) (ob : LObj X) : Prop :=
  ∃ v c w', (execOp a.eval o).run P w = .ok (.value v) w' ∧ e.conc (σ.add m.nx (w.heap.size, c)) ρ = some v ∧ Fr Nothing w w' ∧ w.heap.size < w'.heap.size ∧ ORel T ρ (σ.add m.nx (w.heap.size, c)) (own.add w.heap.size m.nx) m.nx w' ob
theorem new_cells (hd : σ m.nx = none) {t : TypeId} {e : EV} {v : Value} (hc : e.conc σ ρ = some v) :
    ORel T ρ (σ.add m.nx (w.heap.size, 0)) (own.add w.heap.size m.nx) m.nx (w.alloc (.cells v.cells t)) (.cells t e.cells) := by
  refine ⟨w.heap.size, 0, v.cells.toList, Sg.add_same .., Ow.add_same .., EV.concs_mono (Sg.add_le hd) ρ _ _ (cells_conc hc), ?_⟩
  rw [alloc_at]
theorem ptr_new (σ : Sg) (i b c : Nat) : (EV.ptr i 0).conc (σ.add i (b, c)) ρ = some (.pointer (some ⟨b, 0, none⟩)) := by
  simp only [EV.conc, Sg.add_same]
theorem slc_new (σ : Sg) (i b c len sz : Nat) (h : len ≤ c) : (EV.slc i 0 len sz).conc (σ.add i (b, c)) ρ = some (.slice (some ⟨b, 0, none⟩) len c) := by
  simp only [EV.conc, Sg.add_same, Nat.zero_add, if_pos h, Nat.zero_mul, Nat.sub_zero]
theorem repl_length {α : Type} (l : List α) : ∀ n, (repl l n).length = n * l.length
  | 0 => by simp [repl]
  | n + 1 => by rw [repl, List.length_append, repl_length l n, Nat.add_mul, Nat.one_mul, Nat.add_comm]
theorem repl_get {α : Type} (l : List α) (hl : 0 < l.length) : ∀ n j, j < n * l.length → (repl l n)[j]? = l[j % l.length]?
  | 0, j, h => by simp at h
  | n + 1, j, h => by
    rw [repl]
    by_cases hj : j < l.length
    · rw [List.getElem?_append_left hj, Nat.mod_eq_of_lt hj]
    · rw [List.getElem?_append_right (by omega), repl_get l hl n (j - l.length) (by rw [Nat.add_mul, Nat.one_mul] at h; omega)]
      rw [← Nat.mod_eq_sub_mod (by omega)]
theorem repl_concs {z : List EV} {vs : List Value} (h : EV.concs σ ρ z = some vs) : ∀ n, EV.concs σ ρ (repl z n) = some (repl vs n)
  | 0 => rfl
  | n + 1 => concs_append h (repl_concs h n)
theorem repl_made (vs : List Value) (hl : 0 < vs.length) (n : Nat) : (repl vs n).toArray = (Array.range (n * vs.length)).map (vs.toArray[· % vs.toArray.size]!) := by
  apply Array.ext_getElem?
  intro j
  rw [List.getElem?_toArray, Array.getElem?_map]
  by_cases hj : j < n * vs.length
  · have h1 : j % vs.length < vs.length := Nat.mod_lt _ hl
    rw [repl_get vs hl n j hj, Array.getElem?_range, if_pos hj, Option.map_some, List.size_toArray, getElem!_pos vs.toArray _ (by simpa using h1), List.getElem?_eq_getElem h1]
    simp
  · rw [List.getElem?_eq_none (by rw [repl_length]; omega), Array.getElem?_range, if_neg hj]
    rfl
theorem exec_new {o : Oper} {s : Sem Value} {v : Value} (h : execOp a.eval o = (do pure (.value (← s)))) (hs : s.run P w = .ok v w') : (execOp a.eval o).run P w = .ok (.value v) w' := by
  rw [h]
  simp [hs]
theorem grown_ge (w : World) (need old : Nat) (e : TypeId) : need ≤ grownCap w need old e := Nat.le_add_right _ _
theorem made_concs {z : EV} {v : Value} (hc : z.conc σ ρ = some v) (k : Nat) : EV.concs σ ρ (repl z.cells k) = some (repl v.cells.toList k) := repl_concs (cells_conc hc) k
theorem made_eq (v : Value) (h : 0 < v.cells.size) (k : Nat) : madeCells v.cells (k * v.cells.size) = (repl v.cells.toList k).toArray := by
  rw [repl_made _ (by rw [Array.length_toList]; exact h), Array.length_toList]
  rfl
theorem repl_pre {α : Type} (l : List α) (hl : 0 < l.length) {k c j : Nat} {x : α} (hk : k ≤ c) (h : (repl l k)[j]? = some x) : (repl l c)[j]? = some x := by
  have hj : j < k * l.length := by rw [← repl_length]; exact (List.getElem?_eq_some_iff.1 h).1
  have hj2 : j < c * l.length := Nat.lt_of_lt_of_le hj (Nat.mul_le_mul_right _ hk)
  rw [repl_get l hl _ _ hj2, ← repl_get l hl _ _ hj]
  exact h
set_option maxHeartbeats 2000000 in
theorem makeEv_sound {o : Oper} {e : EV} {ob : LObj X} (h : makeEv P o fr m.nx = some (e, ob)) (hF : FRel ρ σ fr n a) (hd : σ m.nx = none) : Makes T P ρ σ own m o a w e ob := by
  unfold makeEv at h
  split at h
  · rename_i t ho
    split at h
    · rename_i z hz
      injection h with h
      injection h with h1 h2
      subst h1 h2
      obtain ⟨v, h1, h2, _⟩ := zeroOf_sound (σ := σ) (ρ := ρ) hz w
      refine ⟨.pointer (some ⟨w.heap.size, 0, none⟩), 0, w.alloc (.cells v.cells t), ?_, ptr_new .., alloc_fr .., alloc_size .., new_cells hd h1⟩
      simp only [execOp, ho, Instr.alloc, Sem.run_bind, h2, Result.andThen_ok, newVar, newRow, run_newObj, Sem.run_pure]
      rfl
    · cases h
  · rename_i t x ho
    split at h
    · rename_i ev hx
      injection h with h
      injection h with h1 h2
      subst h1 h2
      have h1 := opd_sound hx hF
      refine ⟨.pointer (some ⟨w.heap.size, 0, none⟩), 0, w.alloc (.cells (a.eval x).cells t), ?_, ptr_new .., alloc_fr .., alloc_size .., new_cells hd h1⟩
      simp only [execOp, ho, Instr.box, Sem.run_bind, Result.andThen_ok, newVar, newRow, run_newObj, Sem.run_pure]
      rfl
    · cases h
  · rename_i src dst x ho
    split at h
    · rename_i s usrc hx husrc
      split at h
      · rename_i hb
        injection h with h
        injection h with h1 h2
        subst h1 h2
        have h1 := opd_sound hx hF
        simp only [EV.conc, Option.some.injEq] at h1
        obtain ⟨el, hu, he⟩ := byteSlc_spec hb
        have hrun := Lib.run_convert_string_bytes w src dst el s.ba husrc hu he
        rw [Str.ba_size] at hrun
        have hfr : Fr Nothing w (Lib.bytesWorld w el s.ba) := ⟨rfl, rfl, rfl, by rw [Lib.bytesWorld_size]; omega, fun k hk _ => Lib.bytesWorld_at_old w el s.ba k hk⟩
        refine ⟨_, grownCap w s.len 0 el, _, exec_new (s := convert src dst (a.eval x)) (by simp only [execOp, ho]) (by rw [← h1]; exact hrun), slc_new _ _ _ _ _ _ (grown_ge ..), hfr, by rw [Lib.bytesWorld_size]; omega, ?_⟩
        refine ⟨w.heap.size, grownCap w s.len 0 el, _, _, _, Sg.add_same .., Ow.add_same .., Lib.bytesWorld_at_new w el s.ba, fun j u hj => ?_, grown_ge ..⟩
        have hjl : j < s.len := by rw [← Str.l_length]; exact (List.getElem?_eq_some_iff.1 hj).1
        have hjd : j < s.ba.data.size := by
          have : s.ba.data.size = s.len := Str.ba_size s
          omega
        unfold Lib.bytesCells
        rw [Array.getElem?_append_left (by rw [Array.size_map]; exact hjd), Array.getElem?_map, ← Array.getElem?_toList, Str.ba_l, hj]
        rfl
      · cases h
    · cases h
  · rename_i t l c ho
    split at h
    · rename_i k1 nn k2 cap hl hc
      split at h
      · rename_i el s hs
        split at h
        · rename_i z hck hz
          split at h
          · rename_i hzl
            injection h with h
            injection h with h1 h2
            subst h1 h2
            simp only [Bool.and_eq_true, Nat.ble_eq, Nat.blt_eq] at hck
            have h1 := opd_sound hl hF
            have h2 := opd_sound hc hF
            simp only [EV.conc, Option.some.injEq] at h1 h2
            obtain ⟨hu, hsz⟩ := isSome_of_slcOf hs
            obtain ⟨zv, hz1, _, it, hit, hz2⟩ := zeroOf_sound (σ := σ) (ρ := ρ) hz w
            obtain ⟨it', hit', hsz'⟩ := szOf_info hsz
            obtain rfl : it = it' := Option.some.inj (hit.symm.trans hit')
            have hzl' := Nat.eq_of_beq_eq_true hzl
            have hzs : zv.cells.size = s := by rw [cells_length hz1, hzl']
            have hbytes : P.bytesOf el = it.bytes := by unfold Program.bytesOf; rw [hit]; rfl
            rw [hbytes] at hck
            obtain ⟨⟨⟨c1, c2⟩, c3⟩, c4⟩ := hck
            have hbc : (it.bytes : Int) * (cap : Int) ≤ 281474976710656 := by
              have h3 : ((it.bytes * cap : Nat) : Int) ≤ 281474976710656 := by omega
              rw [Int.natCast_mul] at h3
              exact h3
            have hrun := run_make (P := P) w t el it zv hu hit hz2 k1 k2 (nn : Int) (cap : Int) (by omega) (by omega) hbc (by omega)
            simp only [Int.toNat_natCast, hsz'] at hrun
            have hpos : 0 < zv.cells.size := by omega
            refine ⟨_, cap, w.alloc (.cells (madeCells zv.cells (cap * s)) el), exec_new (s := Instr.makeSlice t (a.eval l) (a.eval c)) (by simp only [execOp, ho]) (by rw [← h1, ← h2]; exact hrun), slc_new _ _ _ _ _ _ c1, alloc_fr .., alloc_size .., ?_⟩
            refine ⟨w.heap.size, cap, repl zv.cells.toList nn, madeCells zv.cells (cap * s), Sg.add_same .., Ow.add_same .., EV.concs_mono (Sg.add_le hd) ρ _ _ (made_concs hz1 nn), alloc_at .., fun j v hj => ?_, by simp [madeCells], c2⟩
            rw [← hzs, made_eq _ hpos, List.getElem?_toArray]
            exact repl_pre _ (by rw [Array.length_toList]; exact hpos) c1 hj
          · cases h
        · cases h
      · cases h
    · cases h
  · rename_i t len ps ho
    split at h
    · rename_i el s l hs hl
      split at h
      · rename_i z hle hz
        split at h
        · rename_i cs hck hfill
          injection h with h
          injection h with h1 h2
          subst h1 h2
          simp only [Bool.and_eq_true, Nat.blt_eq] at hck
          have hzl := Nat.eq_of_beq_eq_true hck.2
          have hle' := Nat.le_of_ble_eq_true hle
          obtain ⟨hu, hsz⟩ := isSome_of_slcOf hs
          obtain ⟨zv, hz1, _, it, hit, hz2⟩ := zeroOf_sound (σ := σ) (ρ := ρ) hz w
          obtain ⟨it', hit', hsz'⟩ := szOf_info hsz
          obtain rfl : it = it' := Option.some.inj (hit.symm.trans hit')
          have hzs : zv.cells.size = s := by rw [cells_length hz1, hzl]
          have hpos : 0 < zv.cells.size := by
            rcases Nat.eq_zero_or_pos s with h0 | h0
            · rw [h0, Nat.mul_zero] at hck; omega
            · omega
          obtain ⟨h5, h6⟩ := partsEv_sound hl hF
          obtain ⟨ws, h7, h8, h9⟩ := fillEv_sound hfill (made_concs hz1 len) h5 h6
          have e : (ps.map fun x => (x.1, a.eval x.2)).toList = ps.toList.map fun x => (x.1, a.eval x.2) := Array.toList_map
          have q1 : ¬ len * it.size > 2 ^ 24 := by rw [hsz']; exact Nat.not_lt.2 hle'
          have q2 : ¬ len * it.size = 0 := by rw [hsz']; exact Nat.ne_of_gt hck.1
          have q3 : Instr.fill (fun i => some (i * it.size, it.size)) ((Array.range (len * it.size)).map (zv.cells[· % zv.cells.size]!)) (ps.map fun x => (x.1, a.eval x.2)).toList = some ws.toArray := by
            rw [e, hsz']
            have h10 : madeCells zv.cells (len * s) = (repl zv.cells.toList len).toArray := by rw [← hzs, made_eq _ hpos]
            unfold madeCells at h10
            rw [h10]
            exact h9
          have hrun := run_buildSlice (P := P) w t el len (ps.map fun x => (x.1, a.eval x.2)) ws.toArray it zv hu hit hz2 q1 q2 q3
          refine ⟨_, len, w.alloc (.cells ws.toArray el), exec_new (s := Instr.buildSlice t len (ps.map fun x => (x.1, a.eval x.2))) (by simp only [execOp, ho]) hrun, slc_new _ _ _ _ _ _ (Nat.le_refl _), alloc_fr .., alloc_size .., ?_⟩
          refine ⟨w.heap.size, len, ws, ws.toArray, Sg.add_same .., Ow.add_same .., EV.concs_mono (Sg.add_le hd) ρ _ _ h7, alloc_at .., fun j v hj => by rw [List.getElem?_toArray]; exact hj, ?_, ?_⟩
          · rw [List.size_toArray, h8, repl_length, Array.length_toList, hzs]
          · have h11 : len * 1 ≤ len * s := Nat.mul_le_mul_left _ (by omega)
            omega
        · cases h
      · cases h
    · cases h
  · cases h
end
end Ev
end Go.Proofs.YtmpokappjogehaaGreatDoor
