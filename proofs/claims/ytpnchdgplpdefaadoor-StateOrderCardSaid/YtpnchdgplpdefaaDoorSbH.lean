/- State: the reference's With, Without (written by genSbH.py). -/
import Derived.Test.YtpnchdgplpdefaaDoorSbG
import Derived.ArgAppend
namespace Go.Proofs.YtpnchdgplpdefaaDoor
open Go.RowKit Go.Shelf

theorem run_build_empty {P : Program} (w : World) (t e : TypeId) (ie : TypeInfo) (hu : P.underlying t = some (.slice e)) (hie : P.info? e = some ie) :
    (Instr.buildSlice t 0 #[]).run P w = .ok (.slice (some ⟨w.heap.size, 0, none⟩) 0 0) (w.alloc (.cells #[] e)) := by
  have hn : ∀ cs : Array Value, (newRow e cs).run P w = .ok ⟨w.heap.size, 0, none⟩ (w.alloc (.cells cs e)) := fun cs => rfl
  simp [Instr.buildSlice, run_underlying hu, sizeOf, typeInfo, hie, Result.andThen, Instr.fill, hn]
  rw [show (Array.range 0).map (fun _ => (default : Value)) = #[] from Array.eq_empty_of_size_eq_zero (by simp)]
theorem wp_emptyRow {P : Program} {o : Oper} {a : Act} {w : World} {K : Act → World → Prop} {Q : Exit → Act → World → Prop} (t e : TypeId) (ho : o.op = .buildSlice t 0 #[]) (ie : TypeInfo)
    (hu : P.underlying t = some (.slice e)) (hie : P.info? e = some ie) (h : ∀ w', NewBlk w w' e #[] → K (a.put o.dst (.slice (some ⟨w.heap.size, 0, none⟩) 0 0)) w') : o.wp P a w K Q := by
  unfold Oper.wp
  simp [execOp, ho, run_build_empty w t e ie hu hie, Result.andThen]
  exact h _ (NewBlk.alloc w e #[])
theorem wpList_emptyRow {P : Program} {ops : Array Oper} {rest : List Oper} {o : Oper} {a : Act} {w : World} {Q : Exit → Act → World → Prop} (hg : o.guard = none) (t e : TypeId) (ho : o.op = .buildSlice t 0 #[]) (ie : TypeInfo)
    (hu : P.underlying t = some (.slice e)) (hie : P.info? e = some ie) (h : ∀ w', NewBlk w w' e #[] → wpList P ops Q rest (a.put o.dst (.slice (some ⟨w.heap.size, 0, none⟩) 0 0)) w') : wpList P ops Q (o :: rest) a w :=
  wpList_plain hg fun _ hK => wp_emptyRow t e ho ie hu hie fun w' hn => hK _ _ (h w' hn)
theorem NewBlk.own0 {w w' : World} {e : TypeId} {size : Nat} (h : NewBlk w w' e #[]) : w'.ownsRow 0 e size (.slice (some ⟨w.heap.size, 0, none⟩) 0 0) 0 [] :=
  ⟨by simp, .inr ⟨w.heap.size, 0, #[], rfl, Nat.zero_le _, h.blk, Nat.le_refl _, Nat.zero_le _, by simp, by simp⟩⟩


theorem run_app0 {P : Program} (w : World) (t ty e : TypeId) (i : TypeInfo) (ht : P.underlying t = some (.slice e)) (hi : P.info? e = some i) (g : Nat) (A : Option Addr) (c : Nat) :
    (Builtin.append_ #[t, t] ty #[.slice (some ⟨g, 0, none⟩) 0 0, .slice A 0 c]).run P w = .ok (.slice (some ⟨g, 0, none⟩) 0 0) w := by
  cases A with
  | none => simp [Builtin.append_, run_underlying ht, sizeOf, typeInfo, hi, Builtin.lenOf, Builtin.firstCells, storeCells, Result.andThen]
  | some a =>
    have h := run_append_room_cells (P := P) (w := w) t ty e i ht hi g 0 0 0 a 0 c [] (by simp) (by simp) (by simp) (by simp) (by simp) (by simp)
    simpa [World.setCells] using h
theorem own_base {w : World} {base : Nat} {e : TypeId} {size n : Nat} {v : Value} {xs : List Value} (h : w.ownsRow base e size v n xs) : w.ownsRow 0 e size v n xs := by
  refine ⟨h.1, ?_⟩
  rcases h.2 with h | ⟨g, cap, cur, h1, _, h3⟩
  · exact .inl h
  · exact .inr ⟨g, cap, cur, h1, Nat.zero_le _, h3⟩
/-- append to a new row without room: nothing that was there turns. -/
theorem wp_appE {P : Program} {o : Oper} {a : Act} {w : World} {K : Act → World → Prop} {Q : Exit → Act → World → Prop} (s x : Operand) (t : TypeId) (ho : o.op = .call { callee := .builtin .append, args := #[s, x], argTypes := #[t, t] })
    (e : TypeId) (i : TypeInfo) (z : Value) (size bytes : Nat) (ht : P.underlying t = some (.slice e)) (hi : P.info? e = some i) (hz : i.zero = some z) (hsize : i.size = size) (hby : i.bytes = bytes) (hzs : z.cells.size = size) (hsz : 0 < size)
    (g : Nat) (hs : a.eval s = .slice (some ⟨g, 0, none⟩) 0 0) (hown : w.ownsRow 0 e size (.slice (some ⟨g, 0, none⟩) 0 0) 0 []) (S : Nat → Prop) (A : Option Addr) (m c : Nat) (news : List Value) (hx : a.eval x = .slice A m c) (hr : Rd w S size A m news) (hbytes : m * bytes ≤ 140737488355328) (hm : m ≤ 1048576)
    (h : ∀ v' w', w'.ownsRow 0 e size v' m news → Fr Nothing w w' → (∀ k, v'.ownBlock = some k → k = g ∨ w.heap.size ≤ k) → K (a.put o.dst v') w') : o.wp P a w K Q := by
  by_cases hm0 : m = 0
  · subst hm0
    have hn : news = [] := List.length_eq_zero_iff.1 (by have := hr.1; omega)
    subst hn
    have hrun := run_app0 (P := P) w t o.type e i ht hi g A c
    unfold Oper.wp execOp
    simp only [ho, resolve, invoke, builtin, Sem.run_bind, Sem.run_pure, Result.andThen_ok, List.map_toArray, List.map_cons, List.map_nil, hs, hx, hrun]
    exact h _ _ hown (Fr.refl _ _) (fun k hk => .inl (by simpa [Value.ownBlock] using hk.symm))
  · obtain ⟨ad, rfl, _, hc⟩ := hr.2 (by omega)
    obtain ⟨v', w', hrun, ho', hg⟩ := run_append_arg_grows (P := P) (w := w) t o.type e i z size bytes ht hi hz hsize hby hzs hsz ⟨g, 0, none⟩ 0 0 [] (by simp) (by simp) ad m c news hr.1 hc (by omega) (by simp only [maxLen]; omega) (by simpa using hbytes)
    rw [Nat.zero_add] at ho'
    unfold Oper.wp execOp
    simp only [ho, resolve, invoke, builtin, Sem.run_bind, Sem.run_pure, Result.andThen_ok, List.map_toArray, List.map_cons, List.map_nil, hs, hx, hrun]
    refine h _ _ (own_base ho') ((Fr.grown hg).mono (fun _ _ e => by cases e)) (fun k hk => .inr ?_)
    rcases ho'.2 with ⟨rfl, _⟩ | ⟨g', cap', cur, rfl, hge, _⟩
    · simp [Value.ownBlock] at hk
    · simp [Value.ownBlock] at hk
      omega

/-- A list of the reference. -/
def RowE (w : World) (v : Value) (L : List Ent) : Prop := w.ownsRow 0 54 6 v L.length (L.flatMap entC)
theorem RowE.fr0 {w w' : World} {v : Value} {L : List Ent} (h : RowE w v L) (hf : Fr Nothing w w') : RowE w' v L := own_fr h hf (fun _ _ x => x)
theorem RowE.nil (w : World) : RowE w (.slice none 0 0) [] := ⟨rfl, .inl ⟨rfl, rfl⟩⟩
theorem RowE.el {w : World} {A : Option Addr} {n c : Nat} {L : List Ent} (h : RowE w (.slice A n c) L) : n = L.length ∧ EL w (fun _ => True) A n L ∧ n ≤ c := by
  obtain ⟨A', m, c', e, hm, hc⟩ := own_slice h
  cases e
  have hm' := hm.out
  subst hm'
  exact ⟨rfl, ⟨(Rd.of_own h).any, rfl⟩, hc.out⟩
theorem RowE.form {w : World} {v : Value} {L : List Ent} (h : RowE w v L) : (v = .slice none 0 0 ∧ L = []) ∨ ∃ g c, v = .slice (some ⟨g, 0, none⟩) L.length c ∧ L.length ≤ c ∧ c ≤ maxLen := by
  rcases h.2 with ⟨rfl, h0⟩ | ⟨g, cap, cur, rfl, _, _, h1, h2, _⟩
  · left
    refine ⟨rfl, List.length_eq_zero_iff.1 ?_⟩
    omega
  · exact .inr ⟨g, cap, rfl, h1, h2⟩
theorem flatMap_entC_len (L : List Ent) : (L.flatMap entC).length = L.length * 6 := by
  induction L with
  | nil => rfl
  | cons x L ih => rw [List.flatMap_cons, List.length_append, ih, entC_length, List.length_cons]; omega
theorem flatMap_take (L : List Ent) (k : Nat) : (L.take k).flatMap entC = (L.flatMap entC).take (k * 6) := by
  induction L generalizing k with
  | nil => simp
  | cons x L ih =>
    cases k with
    | zero => simp
    | succ k =>
      rw [List.take_succ_cons, List.flatMap_cons, List.flatMap_cons, ih, List.take_append, entC_length, show (entC x).take ((k + 1) * 6) = entC x from List.take_of_length_le (by rw [entC_length]; omega), show (k + 1) * 6 - 6 = k * 6 by omega]
theorem flatMap_drop (L : List Ent) (k : Nat) : (L.drop k).flatMap entC = (L.flatMap entC).drop (k * 6) := by
  induction L generalizing k with
  | nil => simp
  | cons x L ih =>
    cases k with
    | zero => simp
    | succ k =>
      rw [List.drop_succ_cons, List.flatMap_cons, ih, List.drop_append, entC_length, show (entC x).drop ((k + 1) * 6) = [] from List.drop_of_length_le (by rw [entC_length]; omega), List.nil_append, show (k + 1) * 6 - 6 = k * 6 by omega]
theorem EL.take {w : World} {S : Nat → Prop} {A : Option Addr} {n k : Nat} {L : List Ent} (h : EL w S A n L) (hk : k ≤ n) : Rd w S 6 A k ((L.take k).flatMap entC) := by
  refine ⟨by rw [flatMap_entC_len, List.length_take, h.len]; omega, fun h0 => ?_⟩
  obtain ⟨ad, e, hs, hc⟩ := h.rd.2 (by omega)
  refine ⟨ad, e, hs, fun j u hu => hc j u ?_⟩
  rw [flatMap_take] at hu
  have hj := (List.getElem?_eq_some_iff.1 hu).1
  rw [List.getElem?_take_of_lt (by rw [List.length_take] at hj; omega)] at hu
  exact hu
theorem EL.drop {w : World} {S : Nat → Prop} {ad : Addr} {n k : Nat} {L : List Ent} (h : EL w S (some ad) n L) (hk : k ≤ n) : Rd w S 6 (some (ad.add (k * 6))) (n - k) ((L.drop k).flatMap entC) := by
  refine ⟨by rw [flatMap_entC_len, List.length_drop, h.len], fun h0 => ?_⟩
  obtain ⟨ad', e, hs, hc⟩ := h.rd.2 (by omega)
  cases e
  refine ⟨_, rfl, by unfold Addr.add; split <;> exact hs, fun j u hu => ?_⟩
  rw [Addr.add_add]
  refine hc _ u ?_
  rw [flatMap_drop, List.getElem?_drop] at hu
  exact hu
theorem rank_ins {n : NameV} {v : ByteArray} {L : List Ent} {k : Nat} {b : Bool} (h1 : ∀ y ∈ L.take k, cmpN y.1 n < 0) (h2 : (k = L.length ∧ b = false) ∨ ∃ x, L[k]? = some x ∧ ¬ cmpN x.1 n < 0 ∧ b = (cmpN n x.1 == 0)) :
    insL n v L = L.take k ++ (n, v) :: L.drop (if b = true then k + 1 else k) := by
  conv => lhs; rw [← List.take_append_drop k L]
  rw [insL_gt _ _ (fun y hy => cmpN_pos (h1 y hy))]
  congr 1
  rcases h2 with ⟨rfl, rfl⟩ | ⟨x, hx, hn, rfl⟩
  · simp [insL]
  · obtain ⟨hlt, hv⟩ := List.getElem?_eq_some_iff.1 hx
    rw [List.drop_eq_getElem_cons hlt, hv, insL]
    have ha := cmpN_is.anti n x.1
    by_cases e : cmpN n x.1 = 0
    · rw [if_neg (by omega), if_pos e, if_pos (by rw [e]; rfl)]
    · rw [if_pos (by omega), if_neg (by simp [e]), ← hv, ← List.drop_eq_getElem_cons hlt]
theorem rank_del {n : NameV} {L : List Ent} {k : Nat} {b : Bool} (hs : SortL L) (h1 : ∀ y ∈ L.take k, cmpN y.1 n < 0) (h2 : (k = L.length ∧ b = false) ∨ ∃ x, L[k]? = some x ∧ ¬ cmpN x.1 n < 0 ∧ b = (cmpN n x.1 == 0)) :
    (delL n L = if b = true then L.take k ++ L.drop (k + 1) else L) ∧ (findL n L = if b = true then (L[k]?).map (·.2) else none) := by
  have e0 : delL n L = L.take k ++ delL n (L.drop k) := by
    conv => lhs; rw [← List.take_append_drop k L]
    exact delL_gt _ _ (fun y hy => cmpN_pos (h1 y hy))
  have e1 : findL n L = findL n (L.drop k) := by
    conv => lhs; rw [← List.take_append_drop k L]
    exact findL_gt _ _ (fun y hy => cmpN_pos (h1 y hy))
  rcases h2 with ⟨rfl, rfl⟩ | ⟨x, hx, hn, rfl⟩
  · rw [e0, e1]
    simp [delL, findL]
  · obtain ⟨hlt, hv⟩ := List.getElem?_eq_some_iff.1 hx
    have ha := cmpN_is.anti n x.1
    by_cases e : cmpN n x.1 = 0
    · rw [e0, e1, List.drop_eq_getElem_cons hlt, hv, delL, findL, if_pos e, if_pos e, if_pos (by rw [e]; rfl), if_pos (by rw [e]; rfl), hx]
      exact ⟨rfl, rfl⟩
    · have hx2 : cmpN n x.1 < 0 := by omega
      have hall : ∀ y ∈ L.drop k, cmpN n y.1 < 0 := by
        intro y hy
        rw [List.drop_eq_getElem_cons hlt, hv] at hy
        rcases List.mem_cons.1 hy with rfl | hy
        · exact hx2
        · refine cmpN_is.trans _ _ _ hx2 ?_
          have hs2 : SortL (L.take k ++ x :: L.drop (k + 1)) := by
            rw [← hv, ← List.drop_eq_getElem_cons hlt, List.take_append_drop]
            exact hs
          exact (SortL.parts hs2).2.2.2 y hy
      have hf := findL_none _ hall
      rw [e0, e1, hf, delL_none hf, List.take_append_drop, if_neg (by simp [e]), if_neg (by simp [e])]
      exact ⟨rfl, rfl⟩
end Go.Proofs.YtpnchdgplpdefaaDoor
