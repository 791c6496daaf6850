/- Steps of the proof of LawPipesLoseNothing: contracts of the functions that the law reaches, for every world that holds what each of them asks. -/
import Derived.Test.YtmpokappjogehaaGreatDoorQAG
import Derived.Defers
import Derived.Scope
import Derived.LoopN
set_option linter.unusedVariables false
set_option linter.unusedSimpArgs false
namespace Go.Proofs.YtmpokappjogehaaGreatDoor
namespace Ev
open Go Go.RowKit

section
variable {X : Type} {T : Itp X} {P : Program} {ρ : Nat → Value} {σ σ' σ'' : Sg} {own own' own'' : Ow} {w w' w'' : World} {m m' : Mem X} {a : Act} {fr : Tr EV} {n : Nat}
theorem setRow_fr (w : World) (g : Nat) (cs : Array Value) : Fr (fun k => k = g) w (w.setRow g cs) :=
  ⟨rfl, rfl, rfl, by show w.heap.size ≤ (w.heap.modify g _).size; simp, fun k hk hn => by
    show (w.heap.modify g _)[k]? = _
    rw [Array.getElem?_modify, if_neg (fun e => hn e.symm)]⟩
theorem ones_of {l : List EV} {vs : List Value} (h : EV.concs σ ρ l = some vs) (ho : okCells l = true) : ∀ v ∈ vs, v.oneCell' = true := by
  intro v hv
  obtain ⟨i, hi, rfl⟩ := List.mem_iff_getElem.1 hv
  have hlen := concs_length h
  have hi2 : i < l.length := by omega
  obtain ⟨v', h1, h2⟩ := concs_get h i l[i] (List.getElem?_eq_getElem hi2)
  rw [List.getElem?_eq_getElem hi] at h1
  injection h1 with h1
  rw [h1]
  exact isOne_of_conc h2 (by
    unfold okCells at ho
    exact List.all_eq_true.1 ho _ (List.getElem_mem hi2))
theorem set_list {old us : List Value} {off : Nat} (h : off + us.length ≤ old.length) (j : Nat) : (old.take off ++ us ++ old.drop (off + us.length))[j]? = if off ≤ j ∧ j < off + us.length then us[j - off]? else old[j]? := by
  by_cases h1 : j < off
  · rw [List.append_assoc, List.getElem?_append_left (by rw [List.length_take]; omega), List.getElem?_take, if_pos h1, if_neg (by omega)]
  · by_cases h2 : j < off + us.length
    · rw [List.append_assoc, List.getElem?_append_right (by rw [List.length_take]; omega), List.length_take, Nat.min_eq_left (by omega), List.getElem?_append_left (by omega), if_pos (by omega)]
    · rw [List.getElem?_append_right (by rw [List.length_append, List.length_take]; omega), List.length_append, List.length_take, Nat.min_eq_left (by omega), List.getElem?_drop, if_neg (by omega)]
      congr 1
      omega
theorem storeEv_sound {t : TypeId} {p e : EV} {pa va : Value} (h : storeEv P t p e m = some m') (hp : p.conc σ ρ = some pa) (hv : e.conc σ ρ = some va) (hH : HRel T ρ σ own m w) :
    ∃ w', (Instr.storeAt t pa va).run P w = .ok () w' ∧ HRel T ρ σ own m' w' ∧ Stp σ own m.nx w σ own m'.nx w' := by
  unfold storeEv at h
  split at h
  · rename_i id off
    obtain ⟨b, c, hb, rfl⟩ := ptr_shape hp
    cases hs : szOf P t with
    | none => rw [hs] at h; cases h
    | some s =>
      rw [hs] at h
      simp only at h
      have hcv := cells_conc hv
      have hlen := cells_length hv
      have hz : ∀ w, (sizeOf t).run P w = .ok s w := fun w => sizeOf_run hs w
      split at h
      · rename_i ty cs hck hg
        rw [Bool.and_eq_true] at hck
        have hsz := Nat.eq_of_beq_eq_true hck.1
        cases hset : setCells cs off e.cells with
        | none => rw [hset] at h; cases h
        | some l =>
          rw [hset] at h
          injection h with h
          subst h
          obtain ⟨b', c', vs, h1, h2, h3, h4⟩ := hH.obj id _ hg
          rw [hb] at h1
          injection h1 with h1
          injection h1 with h1 h1'
          subst h1
          obtain ⟨ws, h5, h6, h7, h8⟩ := setCells_concs h3 hcv hset
          have hst := run_storeCells_at P b off ty va.cells.toList 0 vs.toArray w h4 (by simp only [Nat.add_zero, List.size_toArray]; omega) (ones_of hcv hck.2)
          simp only [Nat.add_zero] at hst
          have hws : (vs.take off ++ va.cells.toList ++ vs.drop (off + va.cells.toList.length)) = ws := by
            apply List.ext_getElem?
            intro j
            rw [set_list h7 j, h8 j]
          rw [hws] at hst
          refine ⟨w.setRow b ws.toArray, ?_, ?_⟩
          · simp only [Instr.storeAt, Instr.sureAddr, storeVar, Sem.run_bind, Sem.run_pure, Result.andThen_ok, hz]
            rw [if_neg (by rw [hlen, hsz]; simp)]
            simp only [Sem.run_bind, Sem.run_pure, Result.andThen_ok, hst]
          · exact hH.upd hg h2 (setRow_fr ..) ⟨b, c', ws, hb.trans (by rfl) |>.trans (by rw [h1']), h2, h5, setRow_heap w b vs.toArray ws.toArray ty (0, 0) h4⟩
      · rename_i ty sz cs hck hg
        rw [Bool.and_eq_true] at hck
        have hsz := Nat.eq_of_beq_eq_true hck.1
        cases hset : setCells cs off e.cells with
        | none => rw [hset] at h; cases h
        | some l =>
          rw [hset] at h
          injection h with h
          subst h
          obtain ⟨b', c', vs, full, h1, h2, h3, h4, hpre, hfull, hc63⟩ := hH.obj id _ hg
          rw [hb] at h1
          injection h1 with h1
          injection h1 with h1 h1'
          subst h1 h1'
          obtain ⟨ws, h5, h6, h7, h8⟩ := setCells_concs h3 hcv hset
          have hle : vs.length ≤ full.size := by
            rcases Nat.eq_zero_or_pos vs.length with h0 | h0
            · omega
            · have h9 := hpre (vs.length - 1) _ (List.getElem?_eq_getElem (by omega))
              have := (Array.getElem?_eq_some_iff.1 h9).1
              omega
          have hst := run_storeCells_at P b off ty va.cells.toList 0 full w h4 (by simp only [Nat.add_zero]; omega) (ones_of hcv hck.2)
          simp only [Nat.add_zero] at hst
          refine ⟨w.setRow b (full.toList.take off ++ va.cells.toList ++ full.toList.drop (off + va.cells.toList.length)).toArray, ?_, ?_⟩
          · simp only [Instr.storeAt, Instr.sureAddr, storeVar, Sem.run_bind, Sem.run_pure, Result.andThen_ok, hz]
            rw [if_neg (by rw [hlen, hsz]; simp)]
            simp only [Sem.run_bind, Sem.run_pure, Result.andThen_ok, hst]
          · refine hH.upd hg h2 (setRow_fr ..) ⟨b, c, ws, _, hb, h2, h5, setRow_heap w b full _ ty (0, 0) h4, fun j v hj => ?_, ?_, hc63⟩
            · rw [List.getElem?_toArray, set_list (by have e9 : full.toList.length = full.size := Array.length_toList; omega) j]
              rw [h8 j] at hj
              split at hj
              · rename_i hr; rw [if_pos hr]; exact hj
              · rename_i hr; rw [if_neg hr, Array.getElem?_toList]; exact hpre j v hj
            · rw [List.size_toArray, List.length_append, List.length_append, List.length_take, List.length_drop, Array.length_toList, ← hfull]
              omega
      · cases h
  · cases h
theorem HRel.kill (hH : HRel T ρ σ own m w) (i : Nat) : HRel T ρ σ own (m.upd i .dead) w :=
  ⟨hH.dom, hH.ow, hH.tab, hH.g, fun j o hj => by
    rcases Tr.get_put hj with ⟨rfl, rfl⟩ | ⟨_, hj'⟩
    · trivial
    · exact hH.obj j o hj'⟩
/-- A row's block goes over to a new id. -/
theorem HRel.pass (hH : HRel T ρ σ own m w) {i b c : Nat} (hb : own b = some i) (hf : Fr (fun k => k = b) w w') {ob : LObj X} (ho : ORel T ρ (σ.add m.nx (b, c)) (own.add b m.nx) m.nx w' ob) :
    HRel T ρ (σ.add m.nx (b, c)) (own.add b m.nx) ((m.upd i .dead).new ob) w' ∧ Stp σ own m.nx w (σ.add m.nx (b, c)) (own.add b m.nx) (m.nx + 1) w' := by
  have hle : Sg.le σ (σ.add m.nx (b, c)) := Sg.add_le (hH.dom _ (Nat.le_refl _))
  have hbs := (hH.ow b i hb).1
  refine ⟨⟨fun j hj => ?_, fun b' r hb' => ?_, fun b' hb' => ?_, T.gst w w' hH.g (fun k hk => hf.block k (hH.tab k hk).1 (fun e => ?_)), fun j o hg => ?_⟩, ⟨fun j hj => if_neg (by omega), Nat.le_succ _, hf.mono (fun k _ e => ⟨i, by rw [e]; exact hb⟩), fun b' hb' hn => ?_⟩⟩
  · have hj' : m.nx + 1 ≤ j := hj
    unfold Sg.add
    rw [if_neg (by omega)]
    exact hH.dom j (by omega)
  · have e : ((m.upd i .dead).new ob).nx = m.nx + 1 := rfl
    unfold Ow.add at hb'
    split at hb'
    · rename_i hbe
      injection hb' with hb'
      subst hbe hb'
      exact ⟨Nat.lt_of_lt_of_le hbs hf.size, by rw [e]; omega⟩
    · obtain ⟨h1, h2⟩ := hH.ow b' r hb'
      exact ⟨Nat.lt_of_lt_of_le h1 hf.size, by rw [e]; omega⟩
  · obtain ⟨h1, h2⟩ := hH.tab b' hb'
    refine ⟨Nat.lt_of_lt_of_le h1 hf.size, ?_⟩
    unfold Ow.add
    rw [if_neg (fun e => by subst e; rw [h2] at hb; cases hb)]
    exact h2
  · subst e
    rw [(hH.tab k hk).2] at hb
    cases hb
  · rcases Tr.get_put hg with ⟨rfl, rfl⟩ | ⟨hne, hg'⟩
    · exact ho
    · rcases Tr.get_put hg' with ⟨rfl, rfl⟩ | ⟨hne2, hg''⟩
      · trivial
      · have hnx : j ≠ m.nx := hne
        refine (hH.obj j o hg'').keep hle (fun b' => ?_) (fun b' hb' => hf.block b' (hH.ow b' j hb').1 (fun e => ?_)) hf.size
        · unfold Ow.add
          constructor
          · intro hb'
            rw [if_neg (fun e => by subst e; rw [hb] at hb'; injection hb' with hb'; exact hne2 hb'.symm)]
            exact hb'
          · intro hb'
            split at hb'
            · injection hb' with hb'
              exact absurd hb'.symm hnx
            · exact hb'
        · subst e
          rw [hb] at hb'
          injection hb' with hb'
          exact hne2 hb'.symm
  · unfold Ow.add
    rw [if_neg (fun e => by subst e; rw [hn] at hb; cases hb)]
    exact hn
theorem gcap (w : World) (need old : Nat) (e : TypeId) (h : need ≤ 9223372036854775807) : grownCap w need old e ≤ 9223372036854775807 := by
  have := grownCap_le_maxLen w need old e (by unfold maxLen; omega)
  unfold maxLen at this
  omega
theorem takeN_length {α : Type} : ∀ {k : Nat} {l r : List α}, takeN k l = some r → r.length = k
  | 0, l, r, h => by simp only [takeN, Option.some.injEq] at h; subst h; rfl
  | k + 1, [], r, h => by simp [takeN] at h
  | k + 1, x :: l, r, h => by
    simp only [takeN] at h
    cases h1 : takeN k l with
    | none => rw [h1] at h; cases h
    | some q =>
      rw [h1] at h
      injection h with h
      subst h
      rw [List.length_cons, takeN_length h1]
set_option maxHeartbeats 2000000 in
theorem appendEv_sound {t0 t1 ty : TypeId} {s x e : EV} {sv xv : Value} (h : appendEv P t0 t1 s x m = some (e, m')) (hs : s.conc σ ρ = some sv) (hx : x.conc σ ρ = some xv) (hH : HRel T ρ σ own m w) :
    ∃ v w' σ' own', (Builtin.append_ #[t0, t1] ty #[sv, xv]).run P w = .ok v w' ∧ e.conc σ' ρ = some v ∧ HRel T ρ σ' own' m' w' ∧ Stp σ own m.nx w σ' own' m'.nx w' := by
  unfold appendEv at h
  split at h
  · rename_i el sz id off k sz' ht hsl
    obtain rfl := Nat.eq_of_beq_eq_true ht
    obtain ⟨hu, hsz⟩ := isSome_of_slcOf hsl
    split at h
    · rename_i cs z hck hcs hz
      simp only [Bool.and_eq_true, Nat.blt_eq] at hck
      obtain ⟨⟨hszp, hk⟩, hszz⟩ := hck
      obtain rfl := Nat.eq_of_beq_eq_true hszz
      obtain ⟨zv, hz1, _, it, hit, hz2⟩ := zeroOf_sound (σ := σ) (ρ := ρ) hz w
      obtain ⟨it', hit', hsz'⟩ := szOf_info hsz
      obtain rfl : it = it' := Option.some.inj (hit.symm.trans hit')
      have hbytes : P.bytesOf el = it.bytes := by unfold Program.bytesOf; rw [hit]; rfl
      split at h
      · rename_i l hl
        obtain ⟨xb, xc, hxb, hxc, rfl⟩ := slc_shape hx
        obtain ⟨b', c', vs, h1, h2, h3⟩ := cells_sound hcs hH
        rw [hxb] at h1
        injection h1 with h1
        injection h1 with h1 h1'
        subst h1
        obtain ⟨h4, h5⟩ := takeN_concs (concs_drop (off * sz) h2) hl
        have hll : ((vs.drop (off * sz)).take (k * sz)).length = k * it.size := by rw [hsz', List.length_take]; omega
        have hnews : ∀ j v, ((vs.drop (off * sz)).take (k * sz))[j]? = some v → w.cell? ((⟨xb, off * sz, none⟩ : Addr).add j) = some v := fun j v hj => by
          rw [Addr.add_mid]
          refine h3 _ v ?_
          rw [List.getElem?_take] at hj
          split at hj
          · rw [List.getElem?_drop] at hj; exact hj
          · cases hj
        generalize hN : (vs.drop (off * sz)).take (k * sz) = news at *
        split at h
        · rename_i hck2
          simp only [Bool.and_eq_true] at hck2
          split at h
          · rename_i hck3
            simp only [Bool.and_eq_true, Nat.ble_eq] at hck3
            rw [hbytes] at hck3
            injection h with h
            injection h with he hm
            subst he hm
            simp only [EV.conc, Option.some.injEq] at hs
            subst hs
            have hrun := run_append_nil (P := P) (w := w) t0 ty el it zv hu hit hz2 ⟨xb, off * sz, none⟩ k (xc - off) news hll hnews hk (by omega) (by omega)
            have hzs : zv.cells.size = sz := by rw [cells_length hz1, Nat.eq_of_beq_eq_true hck2.2]
            have hfr : Fr Nothing w (w.drew.alloc (.cells (news.toArray ++ Builtin.zeroCells zv.cells (grownCap w k 0 el - k)) el)) := ((Fr.refl _ _).drew).alloc _
            refine ⟨_, _, σ.add m.nx (w.heap.size, grownCap w k 0 el), own.add w.heap.size m.nx, hrun, slc_new _ _ _ _ _ _ (grown_ge ..), hH.new _ hfr (alloc_size w.drew _) ?_⟩
            refine ⟨w.heap.size, grownCap w k 0 el, news, _, Sg.add_same .., Ow.add_same .., EV.concs_mono (Sg.add_le (hH.dom _ (Nat.le_refl _))) ρ _ _ h4, alloc_at w.drew _, fun j v hj => ?_, ?_, gcap w _ _ _ (by omega)⟩
            · rw [Array.getElem?_append_left (by rw [List.size_toArray]; exact (List.getElem?_eq_some_iff.1 hj).1), List.getElem?_toArray]
              exact hj
            · rw [Array.size_append, List.size_toArray, hll, hsz', size_zeroCells, hzs, ← Nat.add_mul]
              congr 1
              have := grown_ge w k 0 el
              omega
          · cases h
        · rename_i id0 len sz0 hck2
          simp only [Bool.and_eq_true] at hck2
          split at h
          · rename_i e' sz'' old hck3 hg
            simp only [Bool.and_eq_true, Nat.ble_eq] at hck3
            rw [hbytes] at hck3
            split at h
            · rename_i o hck4 ho
              simp only [Bool.and_eq_true] at hck4
              obtain rfl := Nat.eq_of_beq_eq_true hck4.1
              obtain rfl := Nat.eq_of_beq_eq_true hck4.2
              obtain rfl := Nat.eq_of_beq_eq_true hck3.1.1
              injection h with h
              injection h with he hm
              subst he hm
              obtain ⟨g, c, hgb, hgc, rfl⟩ := slc_shape hs
              rw [Nat.zero_add] at hgc
              obtain ⟨g', c2, ovs, full, q1, q2, q3, q4, q5, q6, qc⟩ := hH.obj id0 _ hg
              rw [hgb] at q1
              injection q1 with q1
              injection q1 with q1 q1'
              subst q1 q1'
              obtain ⟨q7, q8⟩ := takeN_concs q3 ho
              have hzs : zv.cells.size = sz := by rw [cells_length hz1, Nat.eq_of_beq_eq_true hck2.2]
              have hcon : EV.concs σ ρ (o ++ l) = some (ovs.take (len * sz) ++ news) := concs_append q7 h4
              have hol : (ovs.take (len * sz)).length = len * it.size := by rw [List.length_take, hsz']; omega
              have hmul : (len + k) * sz = len * sz + k * sz := Nat.add_mul ..
              rcases Nat.lt_or_ge c (len + k) with hgrow | hroom
              · -- a new row
                have hfit : Builtin.nextslicecap (len + k) c * it.bytes ≤ 281474976710656 := growslice_fits hgrow hck3.1.2
                have holds : ∀ j v, (ovs.take (len * sz))[j]? = some v → w.cell? ((⟨g, 0 * sz, none⟩ : Addr).add j) = some v := fun j v hj => by
                  rw [Addr.add_mid, Nat.zero_mul, Nat.zero_add]
                  rw [List.getElem?_take] at hj
                  split at hj
                  · simp [World.cell?, q4, q5 j v hj]
                  · cases hj
                have hrun := run_append_grow (P := P) (w := w) t0 ty el it zv hu hit hz2 ⟨g, 0 * sz, none⟩ len c (ovs.take (len * sz)) hol holds ⟨xb, off * sz, none⟩ k (xc - off) news hll hnews hgrow (by omega) hfit
                have hH2 := hH.kill id0
                have hfr : Fr Nothing w (w.drew.alloc (.cells ((ovs.take (len * sz)).toArray ++ news.toArray ++ Builtin.zeroCells zv.cells (grownCap w (len + k) c el - (len + k))) el)) := ((Fr.refl _ _).drew).alloc _
                refine ⟨_, _, σ.add m.nx (w.heap.size, grownCap w (len + k) c el), own.add w.heap.size m.nx, hrun, slc_new _ _ _ _ _ _ (grown_ge ..), hH2.new _ hfr (alloc_size w.drew _) ?_⟩
                refine ⟨w.heap.size, grownCap w (len + k) c el, ovs.take (len * sz) ++ news, _, Sg.add_same .., Ow.add_same .., EV.concs_mono (Sg.add_le (hH.dom _ (Nat.le_refl _))) ρ _ _ hcon, alloc_at w.drew _, fun j v hj => ?_, ?_, gcap w _ _ _ (by omega)⟩
                · rw [Array.getElem?_append_left (by rw [Array.size_append, List.size_toArray, List.size_toArray, ← List.length_append]; exact (List.getElem?_eq_some_iff.1 hj).1)]
                  have : ((ovs.take (len * sz)).toArray ++ news.toArray) = (ovs.take (len * sz) ++ news).toArray := by simp
                  rw [this, List.getElem?_toArray]
                  exact hj
                · rw [Array.size_append, Array.size_append, List.size_toArray, List.size_toArray, hll, hol, hsz', size_zeroCells, hzs, ← Nat.add_mul, ← Nat.add_mul]
                  congr 1
                  have := grown_ge w (len + k) c el
                  omega
              · -- in place
                have hone := ones_of h4 hck2.1
                have hfit : len * it.size + news.length ≤ full.size := by
                  rw [hll, hsz', q6, ← hmul]
                  exact Nat.mul_le_mul_right _ hroom
                have hrun := run_append_room (P := P) (w := w) t0 ty el it hu hit g len c full q4 ⟨xb, off * sz, none⟩ k (xc - off) news hll hnews hone hroom hfit
                rw [hsz'] at hrun
                have hsv : (Value.slice (some (⟨g, 0 * sz, none⟩ : Addr)) len (c - 0)) = .slice (some ⟨g, 0, none⟩) len c := by simp
                rw [hsv]
                refine ⟨_, _, σ.add m.nx (g, c), own.add g m.nx, hrun, slc_new _ _ _ _ _ _ hroom, hH.pass q2 (setRow_fr ..) ?_⟩
                refine ⟨g, c, ovs.take (len * sz) ++ news, _, Sg.add_same .., Ow.add_same .., EV.concs_mono (Sg.add_le (hH.dom _ (Nat.le_refl _))) ρ _ _ hcon, setRow_heap w g full _ el (0, 0) q4, fun j v hj => ?_, ?_, qc⟩
                · rw [List.getElem?_toArray, set_list (by rw [Array.length_toList, ← hsz']; exact hfit) j]
                  have hl1 : (ovs.take (len * sz)).length = len * sz := by rw [hol, hsz']
                  by_cases hj1 : j < len * sz
                  · rw [if_neg (by omega), Array.getElem?_toList]
                    rw [List.getElem?_append_left (by omega), List.getElem?_take, if_pos hj1] at hj
                    exact q5 j v hj
                  · have hjl := (List.getElem?_eq_some_iff.1 hj).1
                    rw [List.length_append, hl1] at hjl
                    rw [if_pos (by omega)]
                    rw [List.getElem?_append_right (by omega), hl1] at hj
                    exact hj
                · rw [List.size_toArray, List.length_append, List.length_append, List.length_take, List.length_drop, Array.length_toList, ← q6]
                  rw [hsz'] at hfit
                  omega
            · cases h
          · cases h
        · cases h
      · cases h
    · cases h
  · cases h
end
end Ev
end Go.Proofs.YtmpokappjogehaaGreatDoor

namespace Go.Proofs.YtmpokappjogehaaGreatDoor
namespace Ev
open Go Go.RowKit

open Classical in
/-- The blocks that are new, and those of some ids, go over to an id. -/
noncomputable def Ow.take (own : Ow) (K : Nat → Prop) (i n n' : Nat) : Ow := fun k =>
  if k < n then (match own k with | some r => if K r then some i else some r | none => none) else if k < n' then some i else none
section
variable {X : Type} {T : Itp X} {ρ : Nat → Value} {σ : Sg} {own : Ow} {w w' : World} {m m' : Mem X} {K : Nat → Prop} {i n n' k : Nat}
theorem Ow.take_new (h1 : n ≤ k) (h2 : k < n') : own.take K i n n' k = some i := by
  unfold Ow.take
  rw [if_neg (by omega), if_pos h2]
theorem Ow.take_out (h1 : n ≤ k) (h2 : n' ≤ k) : own.take K i n n' k = none := by
  unfold Ow.take
  rw [if_neg (by omega), if_neg (by omega)]
theorem Ow.take_none (h1 : k < n) (h2 : own k = none) : own.take K i n n' k = none := by
  unfold Ow.take
  rw [if_pos h1, h2]
theorem Ow.take_kill {r : Nat} (h1 : k < n) (h2 : own k = some r) (h3 : K r) : own.take K i n n' k = some i := by
  unfold Ow.take
  rw [if_pos h1, h2]
  simp only [if_pos h3]
theorem Ow.take_old {r : Nat} (h1 : k < n) (h2 : own k = some r) (h3 : ¬ K r) : own.take K i n n' k = some r := by
  unfold Ow.take
  rw [if_pos h1, h2]
  simp only [if_neg h3]
theorem Ow.take_keep {j : Nat} (hown : ∀ k r, own k = some r → k < n) (hj : j ≠ i) (hK : ¬ K j) : own k = some j ↔ own.take K i n n' k = some j := by
  constructor
  · intro h
    exact Ow.take_old (hown k j h) h hK
  · intro h
    rcases Nat.lt_or_ge k n with h1 | h1
    · cases ho : own k with
      | none => rw [Ow.take_none h1 ho] at h; cases h
      | some r =>
        by_cases hr : K r
        · rw [Ow.take_kill h1 ho hr] at h; injection h with h; exact absurd h.symm hj
        · rw [Ow.take_old h1 ho hr] at h; exact h
    · rcases Nat.lt_or_ge k n' with h2 | h2
      · rw [Ow.take_new h1 h2] at h; injection h with h; exact absurd h.symm hj
      · rw [Ow.take_out h1 h2] at h; cases h
theorem Ow.take_dom {q r : Nat} (hown : ∀ k r, own k = some r → k < n ∧ r < q) (hi : i < q) (hn : n ≤ n') (h : own.take K i n n' k = some r) : k < n' ∧ r < q := by
  rcases Nat.lt_or_ge k n with h1 | h1
  · cases ho : own k with
    | none => rw [Ow.take_none h1 ho] at h; cases h
    | some s =>
      by_cases hr : K s
      · rw [Ow.take_kill h1 ho hr] at h; injection h with h; subst h; exact ⟨by omega, hi⟩
      · rw [Ow.take_old h1 ho hr] at h; injection h with h; subst h; exact ⟨by omega, (hown k s ho).2⟩
  · rcases Nat.lt_or_ge k n' with h2 | h2
    · rw [Ow.take_new h1 h2] at h; injection h with h; subst h; exact ⟨h2, hi⟩
    · rw [Ow.take_out h1 h2] at h; cases h
theorem HRel.lt (hH : HRel T ρ σ own m w) {p : Nat × Nat} (h : σ i = some p) : i < m.nx := by
  rcases Nat.lt_or_ge i m.nx with h1 | h1
  · exact h1
  · rw [hH.dom i h1] at h; cases h
noncomputable abbrev Ow.turn (own : Ow) (i : Nat) (w w' : World) : Ow := own.take (fun _ => False) i w.heap.size w'.heap.size
/-- An object's own blocks are turned; new blocks go to it. -/
theorem HRel.turn (hH : HRel T ρ σ own m w) (hi : i < m.nx) (hf : Fr (fun k => own k = some i) w w') {ob : LObj X} (ho : ORel T ρ σ (own.turn i w w') i w' ob) :
    HRel T ρ σ (own.turn i w w') (m.upd i ob) w' ∧ Stp σ own m.nx w σ (own.turn i w w') m.nx w' := by
  refine ⟨⟨hH.dom, fun b r h => Ow.take_dom hH.ow hi hf.size h, fun b h => ?_, T.gst w w' hH.g (fun k hk => hf.block k (hH.tab k hk).1 (fun e => ?_)), fun j o hj => ?_⟩, ⟨fun _ _ => rfl, Nat.le_refl _, hf.mono (fun k _ e => ⟨i, e⟩), fun b h1 h2 => Ow.take_none h1 h2⟩⟩
  · obtain ⟨h1, h2⟩ := hH.tab b h
    exact ⟨Nat.lt_of_lt_of_le h1 hf.size, Ow.take_none h1 h2⟩
  · rw [(hH.tab k hk).2] at e
    cases e
  · rcases Tr.get_put hj with ⟨rfl, rfl⟩ | ⟨hne, hj'⟩
    · exact ho
    · refine (hH.obj j o hj').keep (fun _ _ h => h) (fun b => Ow.take_keep (fun k r h => (hH.ow k r h).1) hne (fun h => h)) (fun b hb => hf.block b (hH.ow b j hb).1 (fun e => ?_)) hf.size
      rw [hb] at e
      injection e with e
      exact hne e
/-- A new object, which takes the blocks of ids that are dead now. -/
theorem HRel.took (hH : HRel T ρ σ own m w) (b c : Nat) (hf : Fr (fun k => ∃ r, own k = some r ∧ K r) w w') {ob : LObj X} (hnx : m'.nx = m.nx + 1)
    (hm : ∀ j o, m'.h.get j = some o → (j = m.nx ∧ o = ob) ∨ (j ≠ m.nx ∧ (o = .dead ∨ (¬ K j ∧ m.h.get j = some o))))
    (ho : ORel T ρ (σ.add m.nx (b, c)) (own.take K m.nx w.heap.size w'.heap.size) m.nx w' ob) :
    HRel T ρ (σ.add m.nx (b, c)) (own.take K m.nx w.heap.size w'.heap.size) m' w' ∧ Stp σ own m.nx w (σ.add m.nx (b, c)) (own.take K m.nx w.heap.size w'.heap.size) m'.nx w' := by
  have hle : Sg.le σ (σ.add m.nx (b, c)) := Sg.add_le (hH.dom _ (Nat.le_refl _))
  refine ⟨⟨fun j hj => ?_, fun b r h => Ow.take_dom (fun k r h => ⟨(hH.ow k r h).1, by have := (hH.ow k r h).2; omega⟩) (by omega) hf.size h, fun b h => ?_, T.gst w w' hH.g (fun k hk => hf.block k (hH.tab k hk).1 (fun ⟨r, e, _⟩ => ?_)), fun j o hj => ?_⟩,
    ⟨fun j hj => if_neg (by omega), by omega, hf.mono (fun k _ ⟨r, e, _⟩ => ⟨r, e⟩), fun b h1 h2 => Ow.take_none h1 h2⟩⟩
  · unfold Sg.add
    rw [if_neg (by omega)]
    exact hH.dom j (by omega)
  · obtain ⟨h1, h2⟩ := hH.tab b h
    exact ⟨Nat.lt_of_lt_of_le h1 hf.size, Ow.take_none h1 h2⟩
  · rw [(hH.tab k hk).2] at e
    cases e
  · rcases hm j o hj with ⟨rfl, rfl⟩ | ⟨hne, rfl | ⟨hK, hg⟩⟩
    · exact ho
    · trivial
    · refine (hH.obj j o hg).keep hle (fun b => Ow.take_keep (fun k r h => (hH.ow k r h).1) hne hK) (fun b hb => hf.block b (hH.ow b j hb).1 (fun ⟨r, e, hr⟩ => ?_)) hf.size
      rw [hb] at e
      injection e with e
      subst e
      exact hK hr
theorem new_mem (ob : LObj X) : ∀ j o, (m.new ob).h.get j = some o → (j = m.nx ∧ o = ob) ∨ (j ≠ m.nx ∧ (o = .dead ∨ (¬ False ∧ m.h.get j = some o))) := fun j o h => by
  rcases Tr.get_put h with ⟨rfl, rfl⟩ | ⟨hne, h'⟩
  · exact .inl ⟨rfl, rfl⟩
  · exact .inr ⟨hne, .inr ⟨fun h => h, h'⟩⟩
theorem kill_mem (i : Nat) (ob : LObj X) : ∀ j o, ((m.upd i .dead).new ob).h.get j = some o → (j = m.nx ∧ o = ob) ∨ (j ≠ m.nx ∧ (o = .dead ∨ (¬ (j = i) ∧ m.h.get j = some o))) := fun j o h => by
  rcases Tr.get_put h with ⟨rfl, rfl⟩ | ⟨hne, h'⟩
  · exact .inl ⟨rfl, rfl⟩
  · rcases Tr.get_put h' with ⟨rfl, rfl⟩ | ⟨hne2, h''⟩
    · exact .inr ⟨hne, .inl rfl⟩
    · exact .inr ⟨hne, .inr ⟨hne2, h''⟩⟩
end
end Ev
end Go.Proofs.YtmpokappjogehaaGreatDoor

namespace Go.Proofs.YtmpokappjogehaaGreatDoor
namespace Ev
open Go Go.RowKit

section
variable {X : Type} {T : Itp X} {P : Program} {ρ : Nat → Value} {σ σ' σ'' : Sg} {own own' own'' : Ow} {w w' w'' : World} {m m' : Mem X} {a : Act} {fr : Tr EV} {n : Nat}
/-- A call of the function enters its body. -/
def Enters (P : Program) (f : Nat) : Prop := ∀ vs w, (callFunc f vs).run P w = .ok (.enter f vs) w
/-- What holds behind a call. -/
def Post (T : Itp X) (ρ : Nat → Value) (σ : Sg) (own : Ow) (nx : Nat) (w : World) (v : EV) (m' : Mem X) (e : Ending) (w' : World) : Prop :=
  ∃ u σ' own', e = .returned u ∧ v.conc σ' ρ = some u ∧ HRel T ρ σ' own' m' w' ∧ Stp σ own nx w σ' own' m'.nx w'
def CallOk (T : Itp X) (P : Program) (ρ : Nat → Value) (call : Caller X) : Prop := ∀ f args m v m', call f args m = some (v, m') → Enters P f ∧
  ∀ σ own w vs, EV.concs σ ρ args = some vs → HRel T ρ σ own m w → Calls P f vs.toArray w (Post T ρ σ own m.nx w v m')
def BareOk (P : Program) (ρ : Nat → Value) (bl : Nat → List EV → Option EV) : Prop := ∀ f args v, bl f args = some v → ∀ σ vs w, EV.concs σ ρ args = some vs → ∃ u, v.conc σ ρ = some u ∧ (callFunc f vs.toArray).run P w = .ok (.value u) w
/-- What an operation comes to. -/
def OpTo (T : Itp X) (P : Program) (ρ : Nat → Value) (σ : Sg) (own : Ow) (m : Mem X) (o : Oper) (a : Act) (w : World) (v : EV) (m' : Mem X) : Prop :=
  ∀ (next : Act → World → Prop) (Q : Exit → Act → World → Prop), (∀ u w' σ' own', (v = .any ∨ v.conc σ' ρ = some u) → HRel T ρ σ' own' m' w' → Stp σ own m.nx w σ' own' m'.nx w' → next (a.put o.dst u) w') → o.wp P a w next Q
theorem OpTo.value {o : Oper} {v : EV} {u : Value} (hr : (execOp a.eval o).run P w = .ok (.value u) w') (hv : v = .any ∨ v.conc σ' ρ = some u) (hH : HRel T ρ σ' own' m' w') (hS : Stp σ own m.nx w σ' own' m'.nx w') : OpTo T P ρ σ own m o a w v m' := by
  intro next Q h
  unfold Oper.wp
  rw [hr]
  exact h u w' σ' own' hv hH hS
theorem OpTo.skip {o : Oper} (hr : (execOp a.eval o).run P w = .ok .skip w') (hH : HRel T ρ σ' own' m' w') (hS : Stp σ own m.nx w σ' own' m'.nx w') : OpTo T P ρ σ own m o a w undefE m' := by
  intro next Q h
  unfold Oper.wp
  rw [hr]
  exact h undef w' σ' own' (.inr rfl) hH hS
theorem OpTo.enter {o : Oper} {f : Nat} {vs : Array Value} {v : EV} (hr : (execOp a.eval o).run P w = .ok (.enter f vs) w) (hc : Calls P f vs w (Post T ρ σ own m.nx w v m')) : OpTo T P ρ σ own m o a w v m' := by
  intro next Q h
  unfold Oper.wp
  rw [hr]
  refine hc.mono ?_
  rintro e w' ⟨u, σ', own', rfl, h1, h2, h3⟩
  exact h u w' σ' own' (.inr h1) h2 h3
theorem still_to {o : Oper} {e : EV} (h : stillEv P o fr m = some e) (hF : FRel ρ σ fr n a) (hH : HRel T ρ σ own m w) : OpTo T P ρ σ own m o a w e m := by
  obtain ⟨v, h1, h2⟩ := stillEv_sound h hF hH
  exact OpTo.value h2 h1 hH (Stp.refl ..)
theorem make_to {o : Oper} {e : EV} {ob : LObj X} (h : makeEv P o fr m.nx = some (e, ob)) (hF : FRel ρ σ fr n a) (hH : HRel T ρ σ own m w) : OpTo T P ρ σ own m o a w e (m.new ob) := by
  obtain ⟨v, c, w', h1, h2, h3, h4, h5⟩ := makeEv_sound h hF (hH.dom _ (Nat.le_refl _))
  obtain ⟨h6, h7⟩ := hH.new c h3 h4 h5
  exact OpTo.value h1 (.inr h2) h6 h7
theorem concs_app {l l' : List EV} {vs : List Value} (h : EV.concs σ ρ (l ++ l') = some vs) : ∃ a b, vs = a ++ b ∧ EV.concs σ ρ l = some a ∧ EV.concs σ ρ l' = some b := by
  induction l generalizing vs with
  | nil => exact ⟨[], vs, rfl, rfl, h⟩
  | cons e l ih =>
    rw [List.cons_append] at h
    obtain ⟨v, r, rfl, h1, h2⟩ := concs_cons h
    obtain ⟨a, b, rfl, h3, h4⟩ := ih h2
    exact ⟨v :: a, b, rfl, concs_mk h1 h3, h4⟩
theorem fn_shape {g : Nat} {l c : List EV} {v : Value} (h : (EV.fn g l c).conc σ ρ = some v) : ∃ a b, EV.concs σ ρ l = some a ∧ EV.concs σ ρ c = some b ∧ v = .func (.func g) a.toArray b.toArray := by
  simp only [EV.conc] at h
  split at h
  · rename_i a b h1 h2
    injection h with h
    exact ⟨a, b, h1, h2, h.symm⟩
  · cases h
theorem resolve_run {c : Call} {f : Operand} {g : Nat} {l cp asx : List EV} {ty : TypeId} (hc : c.callee = .value f) (hf : opd fr f = some (.fn g l cp)) (ha : opds fr c.args.toList = some asx) (hF : FRel ρ σ fr n a) :
    ∃ vl vc va, EV.concs σ ρ l = some vl ∧ EV.concs σ ρ cp = some vc ∧ EV.concs σ ρ asx = some va ∧ resolve a.eval c ty = pure { target := .fn (.func g) vc.toArray, args := vl.toArray ++ va.toArray } := by
  obtain ⟨vl, vc, h1, h2, h3⟩ := fn_shape (opd_sound hf hF)
  refine ⟨vl, vc, _, h1, h2, opds_list ha hF, ?_⟩
  unfold resolve
  simp only [hc, h3, Deferred.ofValue, Array.toArray_toList]
theorem turn_to {o : Oper} {e : EV} {bl : Nat → List EV → Option EV} {call : Caller X} (h : turnEv P bl call o fr m = some (e, m')) (hF : FRel ρ σ fr n a) (hH : HRel T ρ σ own m w) (hC : CallOk T P ρ call) (hB : BareOk P ρ bl) : OpTo T P ρ σ own m o a w e m' := by
  unfold turnEv at h
  split at h
  · rename_i t p x ho
    split at h
    · rename_i ep ex hp hx
      cases hs : storeEv P t ep ex m with
      | none => rw [hs] at h; cases h
      | some m1 =>
        rw [hs] at h
        simp only [Option.map_some, Option.some.injEq, Prod.mk.injEq] at h
        obtain ⟨rfl, rfl⟩ := h
        obtain ⟨w', h1, h2, h3⟩ := storeEv_sound hs (opd_sound hp hF) (opd_sound hx hF) hH
        refine OpTo.skip ?_ h2 h3
        simp only [execOp, ho, Sem.run_bind, h1, Result.andThen_ok, Sem.run_pure]
    · cases h
  · rename_i c ho
    split at h
    · rename_i f hc
      split at h
      · rename_i g l cp asx hf ha
        obtain ⟨vl, vc, va, h1, h2, h3, h4⟩ := resolve_run (ty := o.type) hc hf ha hF
        have h5 : EV.concs σ ρ (l ++ asx ++ cp) = some (vl ++ va ++ vc) := concs_append (concs_append h1 h3) h2
        have h6 : (execOp a.eval o).run P w = (callFunc g (vl ++ va ++ vc).toArray).run P w := by
          simp only [execOp, ho, h4, pure_bind, invoke]
          congr 2
          simp
        split at h
        · rename_i v hb
          injection h with h
          injection h with he hm
          subst he hm
          obtain ⟨u, h7, h8⟩ := hB g _ _ hb σ _ w h5
          exact OpTo.value (h6.trans h8) (.inr h7) hH (Stp.refl ..)
        · obtain ⟨h7, h8⟩ := hC g _ _ _ _ h
          exact OpTo.enter (h6.trans (h7 _ w)) (h8 σ own w _ h5 hH)
      · cases h
    · rename_i hc
      split at h
      · rename_i t0 t1 r s x ht ha
        obtain ⟨vs, vx, h1, h2, h3⟩ := concs_two (opds_list ha hF)
        have hty : ∀ ty sv xv, Builtin.append_ c.argTypes ty #[sv, xv] = Builtin.append_ #[t0, t1] ty #[sv, xv] := fun ty sv xv => by
          have e1 : c.argTypes[0]? = some t0 := by rw [← Array.getElem?_toList, ht]; rfl
          have e2 : c.argTypes[1]? = some t1 := by rw [← Array.getElem?_toList, ht]; rfl
          unfold Builtin.append_
          simp only [e1, e2]
          rfl
        have hargs : c.args.map a.eval = #[vs, vx] := Array.ext' h1
        obtain ⟨v, w', σ', own', h4, h5, h6, h7⟩ := appendEv_sound (ty := o.type) h h2 h3 hH
        refine OpTo.value (u := v) ?_ (.inr h5) h6 h7
        simp only [execOp, ho, resolve, hc, pure_bind, invoke, builtin, hargs, hty, Sem.run_bind, h4, Result.andThen_ok, Sem.run_pure]
      · cases h
    · cases h
  · cases h
theorem one_to {o : Oper} {e : EV} {bl : Nat → List EV → Option EV} {call : Caller X} (h : oneEv P bl call o fr m = some (e, m')) (hF : FRel ρ σ fr n a) (hH : HRel T ρ σ own m w) (hC : CallOk T P ρ call) (hB : BareOk P ρ bl) : OpTo T P ρ σ own m o a w e m' := by
  unfold oneEv at h
  split at h
  · rename_i v hs
    injection h with h
    injection h with he hm
    subst he hm
    exact still_to hs hF hH
  · split at h
    · rename_i v ob hm
      injection h with h
      injection h with he hm'
      subst he hm'
      exact make_to hm hF hH
    · exact turn_to h hF hH hC hB

/-! ### Frames -/
structure DRel (ρ : Nat → Value) (σ : Sg) (d : Dfr) (x : Deferred) : Prop where
  ex : ∃ va vc, EV.concs σ ρ d.args = some va ∧ EV.concs σ ρ d.cap = some vc ∧ x = { target := .fn (.func d.f) vc.toArray, args := va.toArray }
def DsRel (ρ : Nat → Value) (σ : Sg) : List Dfr → List Deferred → Prop
  | [], [] => True
  | d :: l, x :: r => DRel ρ σ d x ∧ DsRel ρ σ l r
  | _, _ => False
theorem DsRel.mono (hs : Sg.le σ σ') : ∀ {l : List Dfr} {r : List Deferred}, DsRel ρ σ l r → DsRel ρ σ' l r
  | [], [], _ => trivial
  | d :: l, x :: r, h => ⟨⟨by obtain ⟨va, vc, h1, h2, h3⟩ := h.1.ex; exact ⟨va, vc, EV.concs_mono hs ρ _ _ h1, EV.concs_mono hs ρ _ _ h2, h3⟩⟩, DsRel.mono hs h.2⟩
  | [], _ :: _, h => h.elim
  | _ :: _, [], h => h.elim
structure SRel (T : Itp X) (ρ : Nat → Value) (σ : Sg) (own : Ow) (s : St X) (a : Act) (w : World) : Prop where
  h : HRel T ρ σ own s.m w
  f : FRel ρ σ s.fr s.n a
  d : DsRel ρ σ s.df a.defers
theorem put_size (a : Act) (d : Option Tmp) (u : Value) : (a.put d u).tmps.size = a.tmps.size := by cases d <;> simp [Act.put]
theorem put_defers (a : Act) (d : Option Tmp) (u : Value) : (a.put d u).defers = a.defers := by cases d <;> rfl
theorem FRel.put {d : Tmp} {v : EV} {u : Value} (hF : FRel ρ σ fr n a) (hd : d < n) (hv : v = .any ∨ v.conc σ ρ = some u) : FRel ρ σ (fr.put d v) n (a.put (some d) u) := by
  refine ⟨by rw [put_size]; exact hF.size, fun i e he hne => ?_⟩
  rcases Tr.get_put he with ⟨rfl, rfl⟩ | ⟨hi, he'⟩
  · refine ⟨u, hv.resolve_left hne, ?_⟩
    show (a.tmps.setIfInBounds i u)[i]? = some u
    rw [Array.getElem?_setIfInBounds_self_of_lt (by rw [hF.size]; exact hd)]
  · obtain ⟨v', h1, h2⟩ := hF.get i e he' hne
    refine ⟨v', h1, ?_⟩
    show (a.tmps.setIfInBounds d u)[i]? = some v'
    rw [Array.getElem?_setIfInBounds_ne (fun e => hi e.symm)]
    exact h2
theorem put_sound {s s' : St X} {d : Option Tmp} {v : EV} {u : Value} (h : s.put d v m' = some s') (hF : FRel ρ σ' s.fr s.n a) (hD : DsRel ρ σ' s.df a.defers) (hH : HRel T ρ σ' own' m' w') (hv : v = .any ∨ v.conc σ' ρ = some u) : SRel T ρ σ' own' s' (a.put d u) w' ∧ s'.m = m' := by
  unfold St.put at h
  split at h
  · injection h with h
    subst h
    exact ⟨⟨hH, hF, hD⟩, rfl⟩
  · rename_i t
    split at h
    · rename_i hlt
      injection h with h
      subst h
      exact ⟨⟨hH, hF.put (by simpa using hlt) hv, by rw [put_defers]; exact hD⟩, rfl⟩
    · cases h
theorem want_sound {ops : Array Oper} {o : Oper} {b : Bool} (h : wantEv ops.toList fr o = some b) (hF : FRel ρ σ fr n a) : Region.wanted o (yielded ops a.tmps) = b := by
  unfold wantEv at h
  unfold Region.wanted
  split at h
  · rename_i hg
    injection h with h
    rw [hg, ← h]
  · rename_i j want hg
    rw [hg]
    simp only
    split at h
    · rename_i q hq
      have hq' : ops[j]? = some q := by rw [← hq, Array.getElem?_toList]
      split at h
      · rename_i t ht
        split at h
        · rename_i c hc
          injection h with h
          obtain ⟨v, h1, h2⟩ := hF.get t _ hc (by simp)
          simp only [EV.conc, Option.some.injEq] at h1
          subst h1
          simp only [yielded, hq', Option.bind_some, ht, h2]
          rw [← h]
          cases c <;> cases want <;> rfl
        · rename_i vs hc
          injection h with h
          obtain ⟨v, h1, h2⟩ := hF.get t _ hc (by simp)
          simp only [EV.conc] at h1
          split at h1
          · injection h1 with h1
            subst h1
            simp only [yielded, hq', Option.bind_some, ht, h2]
            rw [← h]
            rfl
          · cases h1
        · cases h
      · cases h
    · cases h
theorem ops_sound {ops : Array Oper} {bl : Nat → List EV → Option EV} {call : Caller X} (hC : CallOk T P ρ call) (hB : BareOk P ρ bl) (Q : Exit → Act → World → Prop) :
    ∀ (l : List Oper) {s s' : St X}, opsEv P bl call ops.toList l s = some s' → ∀ {σ own a w}, SRel T ρ σ own s a w →
      (∀ σ' own' a' w', SRel T ρ σ' own' s' a' w' → Stp σ own s.m.nx w σ' own' s'.m.nx w' → Q .normal a' w') → wpList P ops Q l a w
  | [], s, s', h, σ, own, a, w, hS, hQ => by
    simp only [opsEv, Option.some.injEq] at h
    subst h
    exact hQ σ own a w hS (Stp.refl ..)
  | o :: l, s, s', h, σ, own, a, w, hS, hQ => by
    simp only [opsEv] at h
    split at h
    · cases h
    · rename_i hw
      have hw' := want_sound hw hS.f
      split at h
      · rename_i s1 hp
        unfold wpList
        rw [if_neg (by rw [hw']; simp)]
        obtain ⟨h1, h2⟩ := put_sound (u := undef) hp hS.f hS.d hS.h (.inr rfl)
        refine ops_sound hC hB Q l h h1 (fun σ' own' a' w' h3 h4 => hQ σ' own' a' w' h3 ?_)
        rw [h2] at h4
        exact h4
      · cases h
    · rename_i hw
      have hw' := want_sound hw hS.f
      split at h
      · rename_i v m1 h1
        split at h
        · rename_i s1 hp
          refine BigFrame.wpList_want hw' fun K hK => ?_
          refine one_to h1 hS.f hS.h hC hB K Q fun u w1 σ1 own1 hu hH1 hst => hK _ _ ?_
          have hle := hst.le hS.h.dom
          obtain ⟨h2, h3⟩ := put_sound (u := u) hp (hS.f.mono hle) (hS.d.mono hle) hH1 hu
          refine ops_sound hC hB Q l h h2 (fun σ' own' a' w' h4 h5 => hQ σ' own' a' w' h4 ?_)
          rw [h3] at h5
          exact hst.trans h5
        · cases h
      · split at h
        · rename_i d hd
          split at h
          · rename_i s1 hp
            refine BigFrame.wpList_want hw' fun K hK => ?_
            unfold dfrEv at hd
            split at hd
            · rename_i c ho
              split at hd
              · rename_i f hc
                split at hd
                · rename_i g lf cp asx hf ha
                  injection hd with hd
                  subst hd
                  obtain ⟨vl, vc, va, h2, h3, h4, h5⟩ := resolve_run (ty := o.type) hc hf ha hS.f
                  have hr : (execOp a.eval o).run P w = .ok (.defer { target := .fn (.func g) vc.toArray, args := vl.toArray ++ va.toArray }) w := by
                    simp only [execOp, ho, h5, pure_bind]
                    rfl
                  unfold Oper.wp
                  rw [hr]
                  refine hK _ _ ?_
                  obtain ⟨h6, h7⟩ := put_sound (u := undef) hp hS.f hS.d hS.h (.inr rfl)
                  have h8 : SRel T ρ σ own { s1 with df := ⟨g, lf ++ asx, cp⟩ :: s1.df } (({ a with defers := { target := .fn (.func g) vc.toArray, args := vl.toArray ++ va.toArray } :: a.defers } : Act).put o.dst undef) w := by
                    refine ⟨h6.h, ⟨by rw [put_size]; have := h6.f.size; rw [put_size] at this; exact this, fun i e he hne => ?_⟩, ?_⟩
                    · obtain ⟨v', q1, q2⟩ := h6.f.get i e he hne
                      refine ⟨v', q1, ?_⟩
                      cases hdst : o.dst with
                      | none => rw [hdst] at q2; exact q2
                      | some t => rw [hdst] at q2; exact q2
                    · rw [put_defers]
                      refine ⟨⟨vl ++ va, vc, concs_append h2 h4, h3, by simp⟩, ?_⟩
                      have := h6.d
                      rw [put_defers] at this
                      exact this
                  refine ops_sound hC hB Q l h h8 (fun σ' own' a' w' h9 h10 => hQ σ' own' a' w' h9 ?_)
                  have h11 : s1.m.nx = s.m.nx := by rw [h7]
                  have h12 : Stp σ own s1.m.nx w σ' own' s'.m.nx w' := h10
                  rw [h11] at h12
                  exact h12
                · cases hd
              · cases hd
            · cases hd
          · cases h
        · cases h
end
end Ev
end Go.Proofs.YtmpokappjogehaaGreatDoor
