/- Steps of the proof of LawPipesLoseNothing: contracts of the functions that the law reaches, for every world that holds what each of them asks. -/
import Derived.Test.YtmpokappjogehaaGreatDoorQAE
set_option linter.unusedVariables false
set_option linter.unusedSimpArgs false
namespace Go.Proofs.YtmpokappjogehaaGreatDoor
namespace Ev
open Go Go.RowKit

/-! ### Memory -/
/-- What the objects of a program's own mean; what holds of the tables. -/
structure Itp (X : Type) where
  I : X → (Nat → Prop) → World → Nat → Prop
  tab : Nat → Prop
  G : World → Prop
  st : ∀ x S w w' b, I x S w b → (∀ k, S k → w'.heap[k]? = w.heap[k]?) → w.heap.size ≤ w'.heap.size → I x S w' b
  gst : ∀ w w', G w → (∀ k, tab k → w'.heap[k]? = w.heap[k]?) → G w'
abbrev Ow := Nat → Option Nat
def ORel {X : Type} (T : Itp X) (ρ : Nat → Value) (σ : Sg) (own : Ow) (i : Nat) (w : World) : LObj X → Prop
  | .cells t cs => ∃ b c vs, σ i = some (b, c) ∧ own b = some i ∧ EV.concs σ ρ cs = some vs ∧ w.heap[b]? = some (.cells vs.toArray t (0, 0))
  | .row t sz cs => ∃ b c vs full, σ i = some (b, c) ∧ own b = some i ∧ EV.concs σ ρ cs = some vs ∧ w.heap[b]? = some (.cells full t (0, 0)) ∧ (∀ (j : Nat) (v : Value), vs[j]? = some v → full[j]? = some v) ∧ full.size = c * sz ∧ c ≤ 9223372036854775807
  | .brow s => ∃ b c full t fz, σ i = some (b, c) ∧ own b = some i ∧ w.heap[b]? = some (.cells full t fz) ∧ (∀ (j : Nat) (u : UInt8), s.l[j]? = some u → full[j]? = some (Value.int .u8 (u.toNat : Nat))) ∧ s.len ≤ c
  | .ext x => ∃ b c, σ i = some (b, c) ∧ own b = some i ∧ T.I x (fun k => own k = some i) w b
  | .dead => True
structure HRel {X : Type} (T : Itp X) (ρ : Nat → Value) (σ : Sg) (own : Ow) (m : Mem X) (w : World) : Prop where
  dom : ∀ i, m.nx ≤ i → σ i = none
  ow : ∀ b r, own b = some r → b < w.heap.size ∧ r < m.nx
  tab : ∀ b, T.tab b → b < w.heap.size ∧ own b = none
  g : T.G w
  obj : ∀ i o, m.h.get i = some o → ORel T ρ σ own i w o
structure FRel (ρ : Nat → Value) (σ : Sg) (fr : Tr EV) (n : Nat) (a : Act) : Prop where
  size : a.tmps.size = n
  get : ∀ i e, fr.get i = some e → e ≠ .any → ∃ v, e.conc σ ρ = some v ∧ a.tmps[i]? = some v
structure Stp (σ : Sg) (own : Ow) (nx : Nat) (w : World) (σ' : Sg) (own' : Ow) (nx' : Nat) (w' : World) : Prop where
  ext : ∀ i, i < nx → σ' i = σ i
  nx : nx ≤ nx'
  fr : Fr (fun b => ∃ r, own b = some r) w w'
  old : ∀ b, b < w.heap.size → own b = none → own' b = none

section
variable {X : Type} {T : Itp X} {P : Program} {ρ : Nat → Value} {σ σ' σ'' : Sg} {own own' own'' : Ow} {w w' w'' : World} {m m' : Mem X} {a : Act} {fr : Tr EV} {n : Nat}
theorem Stp.refl (σ : Sg) (own : Ow) (nx : Nat) (w : World) : Stp σ own nx w σ own nx w := ⟨fun _ _ => rfl, Nat.le_refl _, Fr.refl _ _, fun _ _ h => h⟩
theorem Stp.trans {n1 n2 n3 : Nat} (h : Stp σ own n1 w σ' own' n2 w') (k : Stp σ' own' n2 w' σ'' own'' n3 w'') : Stp σ own n1 w σ'' own'' n3 w'' :=
  ⟨fun i hi => (k.ext i (Nat.lt_of_lt_of_le hi h.nx)).trans (h.ext i hi), Nat.le_trans h.nx k.nx,
    h.fr.then_ k.fr (fun i hi ⟨r, hr⟩ => by
      cases ho : own i with
      | none => rw [h.old i hi ho] at hr; cases hr
      | some q => exact ⟨q, rfl⟩),
    fun b hb ho => k.old b (Nat.lt_of_lt_of_le hb h.fr.size) (h.old b hb ho)⟩
theorem Stp.le {nx nx' : Nat} (h : Stp σ own nx w σ' own' nx' w') (hd : ∀ i, nx ≤ i → σ i = none) : Sg.le σ σ' := fun i p hp => by
  rcases Nat.lt_or_ge i nx with hi | hi
  · rw [h.ext i hi]; exact hp
  · rw [hd i hi] at hp; cases hp
theorem FRel.mono (h : FRel ρ σ fr n a) (hs : Sg.le σ σ') : FRel ρ σ' fr n a :=
  ⟨h.size, fun i e he hn => let ⟨v, h1, h2⟩ := h.get i e he hn; ⟨v, EV.conc_mono hs ρ e v h1, h2⟩⟩
/-- An object whose blocks stay as they are. -/
theorem ORel.keep {i : Nat} {o : LObj X} (h : ORel T ρ σ own i w o) (hs : Sg.le σ σ') (ho : ∀ b, own b = some i ↔ own' b = some i) (hw : ∀ b, own b = some i → w'.heap[b]? = w.heap[b]?) (hz : w.heap.size ≤ w'.heap.size) : ORel T ρ σ' own' i w' o := by
  cases o with
  | dead => trivial
  | cells t cs =>
    obtain ⟨b, c, vs, h1, h2, h3, h4⟩ := h
    exact ⟨b, c, vs, hs _ _ h1, (ho b).1 h2, EV.concs_mono hs ρ cs vs h3, (hw b h2).trans h4⟩
  | row t sz cs =>
    obtain ⟨b, c, vs, full, h1, h2, h3, h4, h5, h6⟩ := h
    exact ⟨b, c, vs, full, hs _ _ h1, (ho b).1 h2, EV.concs_mono hs ρ cs vs h3, (hw b h2).trans h4, h5, h6⟩
  | brow s =>
    obtain ⟨b, c, full, t, fz, h1, h2, h3, h4, h5⟩ := h
    exact ⟨b, c, full, t, fz, hs _ _ h1, (ho b).1 h2, (hw b h2).trans h3, h4, h5⟩
  | ext x =>
    obtain ⟨b, c, h1, h2, h3⟩ := h
    refine ⟨b, c, hs _ _ h1, (ho b).1 h2, ?_⟩
    have e : (fun k => own k = some i) = fun k => own' k = some i := funext fun k => propext (ho k)
    rw [← e]
    exact T.st x _ w w' b h3 (fun k hk => hw k hk) hz

/-! ### Constants, operands -/
theorem ofCell_sound {v : Value} {e : EV} (h : ofCell v = some e) : e.conc σ ρ = some v := by
  unfold ofCell at h
  split at h <;> first | (cases h; done) | (injection h with h; subst h)
  · rfl
  · rfl
  · simp only [EV.conc, ofBytes_ba]
  · rfl
  · rfl
  · rfl
  · rfl
theorem ofCells_sound : ∀ {l : List Value} {es : List EV}, allO (l.map ofCell) = some es → EV.concs σ ρ es = some l
  | [], es, h => by simp only [List.map_nil, allO, Option.some.injEq] at h; subst h; rfl
  | v :: l, es, h => by
    simp only [List.map_cons] at h
    cases h1 : ofCell v with
    | none => rw [h1] at h; simp [allO] at h
    | some e =>
      rw [h1] at h
      simp only [allO] at h
      cases h2 : allO (l.map ofCell) with
      | none => rw [h2] at h; cases h
      | some r =>
        rw [h2] at h
        injection h with h
        subst h
        exact concs_mk (ofCell_sound h1) (ofCells_sound h2)
theorem ofValue_sound {v : Value} {e : EV} (h : ofValue v = some e) : e.conc σ ρ = some v := by
  unfold ofValue at h
  split at h
  · rename_i cs
    cases h1 : allO (cs.toList.map ofCell) with
    | none => rw [h1] at h; cases h
    | some es =>
      rw [h1] at h
      simp only [Option.map_some, Option.some.injEq] at h
      subst h
      simp only [EV.conc, ofCells_sound h1, Array.toArray_toList]
  · rename_i cs
    cases h1 : allO (cs.toList.map ofCell) with
    | none => rw [h1] at h; cases h
    | some es =>
      rw [h1] at h
      simp only [Option.map_some, Option.some.injEq] at h
      subst h
      simp only [EV.conc, ofCells_sound h1, Array.toArray_toList]
  · exact ofCell_sound h
theorem opd_sound {x : Operand} {e : EV} (h : opd fr x = some e) (hF : FRel ρ σ fr n a) : e.conc σ ρ = some (a.eval x) := by
  cases x with
  | tmp t =>
    simp only [opd] at h
    have h' : fr.get t = some e ∧ e ≠ .any := by
      split at h
      · cases h
      · rename_i hne
        exact ⟨h, fun he => by subst he; exact hne h⟩
    obtain ⟨v, h1, h2⟩ := hF.get t e h'.1 h'.2
    rw [h1]
    unfold Act.eval
    simp [Array.getD_eq_getD_getElem?, h2]
  | const v => exact ofValue_sound h
  | global g => cases h
  | func f => simp only [opd, Option.some.injEq] at h; subst h; rfl
theorem opds_sound : ∀ {l : List Operand} {es : List EV}, opds fr l = some es → FRel ρ σ fr n a → EV.concs σ ρ es = some (l.map a.eval)
  | [], es, h, _ => by simp only [opds, List.map_nil, allO, Option.some.injEq] at h; subst h; rfl
  | x :: l, es, h, hF => by
    simp only [opds, List.map_cons] at h
    cases h1 : opd fr x with
    | none => rw [h1] at h; simp [allO] at h
    | some e =>
      rw [h1] at h
      simp only [allO] at h
      cases h2 : allO (l.map (opd fr)) with
      | none => rw [h2] at h; cases h
      | some r =>
        rw [h2] at h
        injection h with h
        subst h
        exact concs_mk (opd_sound h1 hF) (opds_sound h2 hF)
theorem zeroOf_sound {t : TypeId} {z : EV} (h : zeroOf P t = some z) (w : World) : ∃ v, z.conc σ ρ = some v ∧ (zeroValue t).run P w = .ok v w ∧ ∃ i, P.info? t = some i ∧ i.zero = some v := by
  unfold zeroOf at h
  cases hi : P.info? t with
  | none => rw [hi] at h; cases h
  | some i =>
    rw [hi] at h
    simp only at h
    cases hz : i.zero with
    | none => rw [hz] at h; cases h
    | some v =>
      rw [hz] at h
      exact ⟨v, ofValue_sound h, by simp [zeroValue, typeInfo, hi, hz], i, rfl, hz⟩
theorem sizeOf_run {t : TypeId} {s : Nat} (h : szOf P t = some s) (w : World) : (sizeOf t).run P w = .ok s w := by
  obtain ⟨i, hi, hs⟩ := szOf_info h
  simp [sizeOf, typeInfo, hi, hs]

/-! ### Cells of objects -/
theorem cells_sound {id : Nat} {cs : List EV} (h : m.cells id = some cs) (hH : HRel T ρ σ own m w) : ∃ b c vs, σ id = some (b, c) ∧ EV.concs σ ρ cs = some vs ∧ ∀ j v, vs[j]? = some v → w.cell? ⟨b, j, none⟩ = some v := by
  unfold Mem.cells at h
  cases ho : m.h.get id with
  | none => rw [ho] at h; cases h
  | some o =>
    have hO := hH.obj id o ho
    rw [ho] at h
    cases o with
    | cells t l =>
      injection h with h; subst h
      obtain ⟨b, c, vs, h1, h2, h3, h4⟩ := hO
      refine ⟨b, c, vs, h1, h3, fun j v hv => ?_⟩
      simp [World.cell?, h4, hv]
    | row t sz l =>
      injection h with h; subst h
      obtain ⟨b, c, vs, full, h1, h2, h3, h4, h5, h6⟩ := hO
      refine ⟨b, c, vs, h1, h3, fun j v hv => ?_⟩
      simp [World.cell?, h4, h5 j v hv]
    | brow s => cases h
    | ext x => cases h
    | dead => cases h

/-! ### Still operations -/
theorem exec_val {o : Oper} {s : Sem Value} {v : Value} (h : execOp a.eval o = (do pure (.value (← s)))) (hs : s.run P w = .ok v w) : (execOp a.eval o).run P w = .ok (.value v) w := by
  rw [h]
  simp [hs]
theorem loadVar_sound {t : TypeId} {s off b : Nat} {cs : List EV} {vs : List Value} {e : EV} (hs : szOf P t = some s) (hu : (P.underlying t).isSome = true) (hp : partOf (aggOf P t) s off cs = some e) (hc : EV.concs σ ρ cs = some vs) (hw : ∀ j v, vs[j]? = some v → w.cell? ⟨b, j, none⟩ = some v) :
    ∃ v, e.conc σ ρ = some v ∧ (loadVar t ⟨b, off, none⟩).run P w = .ok v w := by
  obtain ⟨d, hd⟩ := Option.isSome_iff_exists.1 hu
  obtain ⟨i, hi, hs'⟩ := szOf_info hs
  cases ha : aggOf P t with
  | true =>
    rw [ha] at hp
    unfold partOf at hp
    cases h1 : takeN s (cs.drop off) with
    | none => simp [h1] at hp
    | some l =>
      simp only [h1, Option.map_some, Option.some.injEq] at hp
      subst hp
      obtain ⟨h2, h3⟩ := takeN_concs (concs_drop off hc) h1
      refine ⟨.agg ((vs.drop off).take s).toArray, by simp only [EV.conc, h2], ?_⟩
      refine run_loadVar_mid w b off t _ d ?_ hd ?_ ?_
      · intro j v hv
        refine hw _ v ?_
        rw [List.getElem?_take] at hv
        split at hv
        · rw [List.getElem?_drop] at hv; exact hv
        · cases hv
      · unfold aggOf at ha
        rw [hd] at ha
        cases d <;> simp_all
      · rw [hi]
        simp only [Option.map_some, Option.some.injEq, List.length_take, List.length_drop] at h3 ⊢
        omega
  | false =>
    rw [ha] at hp
    unfold partOf at hp
    obtain ⟨v, h1, h2⟩ := concs_get hc off e hp
    refine ⟨v, h2, ?_⟩
    have hag : (isAgg t).run P w = .ok false w := by
      unfold isAgg
      rw [Sem.run_bind, run_underlying hd, Result.andThen_ok]
      unfold aggOf at ha
      rw [hd] at ha
      cases d <;> simp at ha <;> rfl
    simp only [loadVar, Sem.run_bind, hag, Result.andThen_ok, Bool.false_eq_true, if_false, run_load, hw off v h1]
theorem idx_sound {n : Int} {len j : Nat} (h : idx n len = some j) : n = (j : Int) ∧ j < len := by
  unfold idx at h
  split at h
  · split at h
    · rename_i i hi
      injection h with h
      subst h
      exact ⟨rfl, by simpa using hi⟩
    · cases h
  · cases h
theorem bnd_sound {d len i : Nat} {l : Option Operand} (h : bnd d len (l.map (opd fr)) = some i) (hF : FRel ρ σ fr n a) : (l = none ∧ i = d) ∨ (∃ x k, l = some x ∧ a.eval x = .int k (i : Int) ∧ i ≤ len) := by
  cases l with
  | none => simp only [Option.map_none, bnd, Option.some.injEq] at h; exact .inl ⟨rfl, h.symm⟩
  | some x =>
    simp only [Option.map_some] at h
    cases he : opd fr x with
    | none => rw [he] at h; simp [bnd] at h
    | some e =>
      rw [he] at h
      have hx := opd_sound he hF
      cases e <;> simp only [bnd, reduceCtorEq] at h
      rename_i k z
      cases z with
      | negSucc z => simp [bnd] at h
      | ofNat z =>
        simp only [bnd] at h
        split at h
        · rename_i hz
          injection h with h
          subst h
          simp only [EV.conc, Option.some.injEq] at hx
          exact .inr ⟨x, k, rfl, hx.symm, Nat.le_of_ble_eq_true hz⟩
        · cases h
theorem sliceBound_run {k : IntKind} {i y : Nat} (h : i ≤ y) (c : BoundsCode) (w : World) : (Instr.sliceBound (.int k (i : Int)) y c).run P w = .ok i w := by
  have h1 : (0 : Int) ≤ (i : Int) ∧ (i : Int) ≤ (y : Nat) := by omega
  simp only [Instr.sliceBound, asIntOf, Sem.run_bind, Sem.run_pure, Result.andThen_ok, if_pos h1]
  simp
theorem sliceBounds_run {isS : Bool} {len cap l h : Nat} {lo hi : Option Operand} (hh : bnd len len (hi.map (opd fr)) = some h) (hl : bnd 0 h (lo.map (opd fr)) = some l) (hF : FRel ρ σ fr n a) (hc : len ≤ cap) (w : World) :
    (Instr.sliceBounds isS len cap (lo.map a.eval) (hi.map a.eval) none).run P w = .ok (l, h, cap) w ∧ l ≤ h ∧ h ≤ len := by
  have hhl : h ≤ len := by
    rcases bnd_sound hh hF with ⟨_, rfl⟩ | ⟨x, k, _, _, h3⟩
    · exact Nat.le_refl _
    · exact h3
  have hll : l ≤ h := by
    rcases bnd_sound hl hF with ⟨_, rfl⟩ | ⟨x, k, _, _, h3⟩
    · exact Nat.zero_le _
    · exact h3
  refine ⟨?_, hll, hhl⟩
  unfold Instr.sliceBounds
  rcases bnd_sound hh hF with ⟨rfl, rfl⟩ | ⟨x, k, rfl, h2, h3⟩
  · rcases bnd_sound hl hF with ⟨rfl, rfl⟩ | ⟨x', k', rfl, h2', h3'⟩
    · rfl
    · simp only [Option.map_none, Option.map_some, h2', Sem.run_bind, Sem.run_pure, Result.andThen_ok, Option.isSome_none, Bool.false_eq_true, if_false, sliceBound_run h3']
  · rcases bnd_sound hl hF with ⟨rfl, rfl⟩ | ⟨x', k', rfl, h2', h3'⟩
    · simp only [Option.map_none, Option.map_some, h2, Sem.run_bind, Sem.run_pure, Result.andThen_ok, Option.isSome_none, Bool.false_eq_true, if_false]
      rw [sliceBound_run (by omega)]
      rfl
    · simp only [Option.map_none, Option.map_some, h2, h2', Sem.run_bind, Sem.run_pure, Result.andThen_ok, Option.isSome_none, Bool.false_eq_true, if_false]
      rw [sliceBound_run (by omega)]
      simp only [Result.andThen_ok, sliceBound_run h3']
theorem slc_shape {id off len sz : Nat} {v : Value} (h : (EV.slc id off len sz).conc σ ρ = some v) : ∃ b c, σ id = some (b, c) ∧ off + len ≤ c ∧ v = .slice (some ⟨b, off * sz, none⟩) len (c - off) := by
  simp only [EV.conc] at h
  cases h1 : σ id with
  | none => rw [h1] at h; cases h
  | some p =>
    obtain ⟨b, c⟩ := p
    rw [h1] at h
    simp only at h
    split at h
    · rename_i hc
      injection h with h
      exact ⟨b, c, rfl, hc, h.symm⟩
    · cases h
theorem ptr_shape {id off : Nat} {v : Value} (h : (EV.ptr id off).conc σ ρ = some v) : ∃ b c, σ id = some (b, c) ∧ v = .pointer (some ⟨b, off, none⟩) := by
  simp only [EV.conc] at h
  cases h1 : σ id with
  | none => rw [h1] at h; cases h
  | some p =>
    obtain ⟨b, c⟩ := p
    rw [h1] at h
    injection h with h
    exact ⟨b, c, rfl, h.symm⟩
theorem asl_shape {id base len sz : Nat} {v : Value} (h : (EV.asl id base len sz).conc σ ρ = some v) : ∃ b c, σ id = some (b, c) ∧ v = .slice (some ⟨b, base, none⟩) len len := by
  simp only [EV.conc] at h
  cases h1 : σ id with
  | none => rw [h1] at h; cases h
  | some p =>
    obtain ⟨b, c⟩ := p
    rw [h1] at h
    injection h with h
    exact ⟨b, c, rfl, h.symm⟩
theorem sliceEv_sound {t : TypeId} {x e : EV} {v : Value} {lo hi : Option Operand} (h : sliceEv P t x (lo.map (opd fr)) (hi.map (opd fr)) = some e) (hx : x.conc σ ρ = some v) (hF : FRel ρ σ fr n a) (w : World) :
    ∃ u, (e = .any ∨ e.conc σ ρ = some u) ∧ (Instr.sliceAt t v (lo.map a.eval) (hi.map a.eval) none).run P w = .ok u w := by
  unfold sliceEv at h
  split at h
  · rename_i s hu
    cases h1 : bnd s.len s.len (hi.map (opd fr)) with
    | none => rw [h1] at h; cases h
    | some hh =>
      rw [h1] at h
      simp only at h
      cases h2 : bnd 0 hh (lo.map (opd fr)) with
      | none => rw [h2] at h; cases h
      | some l =>
        rw [h2] at h
        injection h with h
        subst h
        simp only [EV.conc, Option.some.injEq] at hx
        subst hx
        obtain ⟨h3, h4, h5⟩ := sliceBounds_run (P := P) (isS := false) h1 h2 hF (Nat.le_refl s.len) w
        refine ⟨_, .inr rfl, ?_⟩
        simp only [Instr.sliceAt, Sem.run_bind, run_underlying hu, Result.andThen_ok, Instr.slice, Option.isSome_none, Bool.false_eq_true, if_false, Str.ba_size, h3, Sem.run_pure, Str.sub_ba s l hh h4 h5]
  · rename_i el id off len sz hu
    cases hs : szOf P el with
    | none => rw [hs] at h; cases h
    | some s =>
      rw [hs] at h
      simp only at h
      cases hb : Nat.beq s sz with
      | false => rw [hb] at h; cases h
      | true =>
        have hb' := Nat.eq_of_beq_eq_true hb
        subst hb'
        rw [hb] at h
        cases h1 : bnd len len (hi.map (opd fr)) with
        | none => rw [h1] at h; cases h
        | some hh =>
          rw [h1] at h
          simp only at h
          obtain ⟨b, c, h6, h7, rfl⟩ := slc_shape hx
          cases h2 : bnd 0 hh (lo.map (opd fr)) with
          | none => rw [h2] at h; cases h
          | some l =>
            rw [h2] at h
            obtain ⟨h3, h4, h5⟩ := sliceBounds_run (P := P) (isS := true) (cap := c - off) h1 h2 hF (by omega) w
            have hrun : (Instr.sliceAt t (.slice (some ⟨b, off * s, none⟩) len (c - off)) (lo.map a.eval) (hi.map a.eval) none).run P w =
                .ok (.slice (if c - off = l then some ⟨b, off * s, none⟩ else some ((⟨b, off * s, none⟩ : Addr).add (l * s))) (hh - l) (c - off - l)) w := by
              simp only [Instr.sliceAt, Sem.run_bind, run_underlying hu, Result.andThen_ok, Instr.slice, h3, sizeOf_run hs, Sem.run_pure, Option.map_some]
            cases l with
            | zero =>
              injection h with h
              subst h
              refine ⟨_, .inr ?_, hrun⟩
              simp only [EV.conc, h6, if_pos (show off + hh ≤ c by omega), Option.some.injEq]
              simp [Addr.add]
            | succ l =>
              simp only at h
              split at h
              · rename_i hlt
                injection h with h
                subst h
                have hlt' : l + 1 < len := by simpa using hlt
                refine ⟨_, .inr ?_, hrun⟩
                simp only [EV.conc, h6]
                rw [if_pos (show off + (l + 1) + (hh - (l + 1)) ≤ c by omega), if_neg (show ¬ c - off = l + 1 by omega), Addr.add_mid]
                congr 2
                · congr 2; rw [Nat.add_mul]
                · omega
              · injection h with h
                exact ⟨_, .inl h.symm, hrun⟩
  · rename_i el hu
    cases hs : szOf P el with
    | none => rw [hs] at h; cases h
    | some sz =>
      rw [hs] at h
      cases h1 : bnd 0 0 (hi.map (opd fr)) with
      | none => rw [h1] at h; cases h
      | some hh =>
        cases h2 : bnd 0 0 (lo.map (opd fr)) with
        | none => rw [h1, h2] at h; cases hh <;> cases h
        | some l =>
          rw [h1, h2] at h
          cases hh with
          | succ _ => cases h
          | zero =>
            cases l with
            | succ _ => cases h
            | zero =>
              injection h with h
              subst h
              simp only [EV.conc, Option.some.injEq] at hx
              subst hx
              obtain ⟨h3, h4, h5⟩ := sliceBounds_run (P := P) (isS := true) (len := 0) (cap := 0) h1 h2 hF (Nat.le_refl _) w
              refine ⟨_, .inr rfl, ?_⟩
              simp only [Instr.sliceAt, Sem.run_bind, run_underlying hu, Result.andThen_ok, Instr.slice, h3, sizeOf_run hs, Sem.run_pure]
              rfl
  · cases h

/-! ### Building -/
theorem foldl_set (off : Nat) : ∀ (us : List Value) (k : Nat) (cells : Array Value), off + k + us.length ≤ cells.size →
    ((us.zipIdx k).foldl (fun cs p => cs.setIfInBounds (off + p.2) p.1) cells).size = cells.size ∧
    ∀ j, ((us.zipIdx k).foldl (fun cs p => cs.setIfInBounds (off + p.2) p.1) cells)[j]? = if off + k ≤ j ∧ j < off + k + us.length then us[j - (off + k)]? else cells[j]?
  | [], k, cells, _ => ⟨rfl, fun j => by rw [if_neg (by simp)]; rfl⟩
  | u :: us, k, cells, h => by
    simp only [List.length_cons] at h
    obtain ⟨h1, h2⟩ := foldl_set off us (k + 1) (cells.setIfInBounds (off + k) u) (by simp; omega)
    simp only [List.zipIdx_cons, List.foldl_cons]
    refine ⟨by rw [h1]; simp, fun j => ?_⟩
    rw [h2 j, List.length_cons]
    by_cases hj : off + k = j
    · subst hj
      rw [if_neg (by omega), if_pos (by omega), Nat.sub_self]
      simp only [List.getElem?_cons_zero]
      rw [Array.getElem?_setIfInBounds_self_of_lt (by omega)]
    · by_cases hj2 : off + (k + 1) ≤ j ∧ j < off + (k + 1) + us.length
      · rw [if_pos hj2, if_pos (by omega)]
        rw [show j - (off + k) = (j - (off + (k + 1))) + 1 by omega, List.getElem?_cons_succ]
      · rw [if_neg hj2, if_neg (by omega), Array.getElem?_setIfInBounds_ne (by omega)]
theorem fillEv_sound {pl : Nat → Option (Nat × Nat)} : ∀ {l : List (Nat × EV)} {ps : List (Nat × Value)} {cs cs' : List EV} {vs : List Value}, fillEv pl cs l = some cs' → EV.concs σ ρ cs = some vs →
    EV.concs σ ρ (l.map (·.2)) = some (ps.map (·.2)) → l.map (·.1) = ps.map (·.1) → ∃ ws : List Value, EV.concs σ ρ cs' = some ws ∧ ws.length = vs.length ∧ Instr.fill pl vs.toArray ps = some ws.toArray
  | [], [], cs, cs', vs, h, hc, _, _ => by simp only [fillEv, Option.some.injEq] at h; subst h; exact ⟨vs, hc, rfl, rfl⟩
  | [], _ :: _, _, _, _, _, _, _, hi => by simp at hi
  | _ :: _, [], _, _, _, _, _, _, hi => by simp at hi
  | (i, e) :: l, (i', v) :: ps, cs, cs', vs, h, hc, hp, hi => by
    simp only [List.map_cons, List.cons.injEq] at hi
    obtain ⟨rfl, hi⟩ := hi
    simp only [List.map_cons] at hp
    obtain ⟨v', r, hvr, h1, h2⟩ := concs_cons hp
    injection hvr with e1 e2
    subst e1 e2
    simp only [fillEv] at h
    cases hpl : pl i with
    | none => rw [hpl] at h; cases h
    | some q =>
      obtain ⟨off, size⟩ := q
      rw [hpl] at h
      simp only at h
      cases hb : Nat.beq e.cells.length size with
      | false => rw [hb] at h; cases h
      | true =>
        have hb' := Nat.eq_of_beq_eq_true hb
        rw [hb] at h
        simp only at h
        cases hs : setCells cs off e.cells with
        | none => rw [hs] at h; cases h
        | some l' =>
          rw [hs] at h
          simp only at h
          obtain ⟨ws, h3, h4, h5, h6⟩ := setCells_concs hc (cells_conc h1) hs
          obtain ⟨ws', h7, h8, h9⟩ := fillEv_sound h h3 h2 hi
          have hsz : v.cells.size = size := by rw [← Array.length_toList, concs_length (cells_conc h1), hb']
          have hlen : v.cells.toList.length = v.cells.size := Array.length_toList
          refine ⟨ws', h7, h8.trans h4, ?_⟩
          simp only [Instr.fill, hpl]
          rw [if_neg (by
            simp only [ne_eq, Bool.or_eq_true, decide_eq_true_eq, not_or, hsz, not_true_eq_false, not_false_eq_true, true_and, List.size_toArray]
            omega)]
          have e : v.cells.zipIdx.foldl (fun cs (x : Value × Nat) => cs.setIfInBounds (off + x.2) x.1) vs.toArray = ws.toArray := by
            rw [← Array.foldl_toList, Array.toList_zipIdx]
            obtain ⟨g1, g2⟩ := foldl_set off v.cells.toList 0 vs.toArray (by simp only [List.size_toArray]; omega)
            apply Array.ext_getElem?
            intro j
            rw [g2 j]
            simp only [Nat.add_zero, List.getElem?_toArray, h6 j]
          exact (congrArg (fun z => Instr.fill pl z ps) e).trans h9
theorem partsEv_sound : ∀ {ps : List (Nat × Operand)} {l : List (Nat × EV)}, partsEv fr ps = some l → FRel ρ σ fr n a → EV.concs σ ρ (l.map (·.2)) = some ((ps.map fun x => (x.1, a.eval x.2)).map (·.2)) ∧ l.map (·.1) = (ps.map fun x => (x.1, a.eval x.2)).map (·.1)
  | [], l, h, _ => by simp only [partsEv, List.map_nil, allO, Option.some.injEq] at h; subst h; exact ⟨rfl, rfl⟩
  | (i, x) :: ps, l, h, hF => by
    simp only [partsEv, List.map_cons] at h
    cases h1 : opd fr x with
    | none => rw [h1] at h; simp [allO] at h
    | some e =>
      rw [h1] at h
      simp only [Option.map_some, allO] at h
      cases h2 : allO (ps.map fun p => (opd fr p.2).map fun v => (p.1, v)) with
      | none => rw [h2] at h; cases h
      | some r =>
        rw [h2] at h
        injection h with h
        subst h
        obtain ⟨h3, h4⟩ := partsEv_sound h2 hF
        exact ⟨concs_mk (opd_sound h1 hF) h3, by simp only [List.map_cons]; rw [h4]⟩
theorem build_sound {t : TypeId} {ps : Array (Nat × Operand)} {z : EV} {l : List (Nat × EV)} {pl : Nat → Option (Nat × Nat)} {cs : List EV} (h1 : zeroOf P t = some z) (h2 : partsEv fr ps.toList = some l) (h3 : placeOf P t = some pl) (h4 : fillEv pl z.cells l = some cs) (hF : FRel ρ σ fr n a) (w : World) :
    ∃ v, (EV.agg cs).conc σ ρ = some v ∧ (Instr.build t (ps.map fun x => (x.1, a.eval x.2))).run P w = .ok v w := by
  obtain ⟨zv, hz1, _, it, hit, hz2⟩ := zeroOf_sound (σ := σ) (ρ := ρ) h1 w
  obtain ⟨h5, h6⟩ := partsEv_sound h2 hF
  obtain ⟨ws, h7, _, h8⟩ := fillEv_sound h4 (cells_conc hz1) h5 h6
  refine ⟨.agg ws.toArray, by simp only [EV.conc, h7], ?_⟩
  refine run_build w t _ ws.toArray ?_
  have e : (ps.map fun x => (x.1, a.eval x.2)).toList = ps.toList.map fun x => (x.1, a.eval x.2) := Array.toList_map
  rw [e]
  have h8' : Instr.fill pl zv.cells (ps.toList.map fun x => (x.1, a.eval x.2)) = some ws.toArray := by simpa using h8
  unfold placeOf at h3
  unfold Program.built
  rw [hit]
  cases hu : P.underlying t with
  | none => rw [hu] at h3; cases h3
  | some d =>
    rw [hu] at h3
    cases d <;> simp only [reduceCtorEq] at h3
    case array k el =>
      cases hs : szOf P el with
      | none => rw [hs] at h3; cases h3
      | some s =>
        obtain ⟨ie, hie, hse⟩ := szOf_info hs
        rw [hs] at h3
        simp only [Option.some.injEq] at h3
        subst h3
        simp only [hz2, hie, hse]
        exact h8'
    case struct fs =>
      cases hp : fs.toList.mapM (fun f => (P.info? f.type).map fun i => (f.offset, i.size)) with
      | none => rw [hp] at h3; cases h3
      | some pls =>
        rw [hp] at h3
        simp only [Option.some.injEq] at h3
        subst h3
        simp only [hz2, hp]
        have : (fun (x : Nat) => pls.toArray[x]?) = fun (i : Nat) => pls[i]? := by funext i; simp
        rw [this]
        exact h8'
end
end Ev
end Go.Proofs.YtmpokappjogehaaGreatDoor
