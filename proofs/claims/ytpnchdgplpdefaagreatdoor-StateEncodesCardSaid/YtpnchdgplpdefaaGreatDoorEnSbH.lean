/- State: the reference's With, Without (written by genSbI.py). -/
import Derived.Test.YtpnchdgplpdefaaGreatDoorEnSbU
import Derived.ArgAppend
import Derived.Test.YtpnchdgplpdefaaGreatDoorEnSbF
namespace Go.Proofs.YtpnchdgplpdefaaGreatDoor
open Go.RowKit Go.Shelf
theorem run_build_empty {P : Program} (w : World) (t e : TypeId) (ie : TypeInfo) (hu : P.underlying t = some (.slice e)) (hie : P.info? e = some ie) :
  (Instr.buildSlice t 0 #[]).run P w = .ok (.slice (some ⟨w.heap.size, 0, none⟩) 0 0) (w.alloc (.cells #[] e)) := by
 have hn : ∀ cs : Array Value, (newRow e cs).run P w = .ok ⟨w.heap.size, 0, none⟩ (w.alloc (.cells cs e)) := fun cs => rfl
 simp [Instr.buildSlice, run_underlying hu, sizeOf, typeInfo, hie, Result.andThen, Instr.fill, hn]
 rw [show (Array.range 0).map (fun _ => (default : Value)) = #[] from Array.eq_empty_of_size_eq_zero (by simp)]
theorem wp_emptyRow {P : Program} {o : Oper} {a : Act} {w : World} {K : Act → World → Prop} {Q : Exit → Act → World → Prop} (t e : TypeId) (ho : o.op = .buildSlice t 0 #[]) (ie : TypeInfo)
  (hu : P.underlying t = some (.slice e)) (hie : P.info? e = some ie) (h : ∀ w', NewBlk w w' e #[] → K (a.put o.dst (.slice (some ⟨w.heap.size, 0, none⟩) 0 0)) w') : o.wp P a w K Q := by
 unfold Oper.wp
 simp [execOp, ho, run_build_empty w t e ie hu hie, Result.andThen]
 exact h _ (NewBlk.alloc w e #[])
theorem NewBlk.own0 {w w' : World} {e : TypeId} {size : Nat} (h : NewBlk w w' e #[]) : w'.ownsRow 0 e size (.slice (some ⟨w.heap.size, 0, none⟩) 0 0) 0 [] :=
 ⟨by simp, .inr ⟨w.heap.size, 0, #[], rfl, Nat.zero_le _, h.blk, Nat.le_refl _, Nat.zero_le _, by simp, by simp⟩⟩
theorem run_app0 {P : Program} (w : World) (t ty e : TypeId) (i : TypeInfo) (ht : P.underlying t = some (.slice e)) (hi : P.info? e = some i) (g : Nat) (A : Option Addr) (c : Nat) :
  (Builtin.append_ #[t, t] ty #[.slice (some ⟨g, 0, none⟩) 0 0, .slice A 0 c]).run P w = .ok (.slice (some ⟨g, 0, none⟩) 0 0) w := by
 cases A with
 | none => simp [Builtin.append_, run_underlying ht, sizeOf, typeInfo, hi, Builtin.lenOf, Builtin.firstCells, storeCells, Result.andThen]
 | some a =>
  have h := run_append_room_cells (P := P) (w := w) t ty e i ht hi g 0 0 0 a 0 c [] (by simp) (by simp) (by simp) (by simp) (by simp) (by simp)
  simpa [World.setCells] using h
theorem own_base {w : World} {base : Nat} {e : TypeId} {size n : Nat} {v : Value} {xs : List Value} (h : w.ownsRow base e size v n xs) : w.ownsRow 0 e size v n xs := by
 refine ⟨h.1, ?_⟩
 rcases h.2 with h | ⟨g, cap, cur, h1, _, h3⟩
 ·exact .inl h
 ·exact .inr ⟨g, cap, cur, h1, Nat.zero_le _, h3⟩
theorem wp_appE {P : Program} {o : Oper} {a : Act} {w : World} {K : Act → World → Prop} {Q : Exit → Act → World → Prop} (s x : Operand) (t : TypeId) (ho : o.op = .call { callee := .builtin .append, args := #[s, x], argTypes := #[t, t] })
  (e : TypeId) (i : TypeInfo) (z : Value) (size bytes : Nat) (ht : P.underlying t = some (.slice e)) (hi : P.info? e = some i) (hz : i.zero = some z) (hsize : i.size = size) (hby : i.bytes = bytes) (hzs : z.cells.size = size) (hsz : 0 < size)
  (g : Nat) (hs : a.eval s = .slice (some ⟨g, 0, none⟩) 0 0) (hown : w.ownsRow 0 e size (.slice (some ⟨g, 0, none⟩) 0 0) 0 []) (S : Nat → Prop) (A : Option Addr) (m c : Nat) (news : List Value) (hx : a.eval x = .slice A m c) (hr : Rd w S size A m news) (hbytes : m * bytes ≤ 140737488355328) (hm : m ≤ 1048576)
  (h : ∀ v' w', w'.ownsRow 0 e size v' m news → Fr Nothing w w' → (∀ k, v'.ownBlock = some k → k = g ∨ w.heap.size ≤ k) → K (a.put o.dst v') w') : o.wp P a w K Q := by
 by_cases hm0 : m = 0
 ·subst hm0
  have hn : news = [] := List.length_eq_zero_iff.1 (by have := hr.1; omega)
  subst hn
  have hrun := run_app0 (P := P) w t o.type e i ht hi g A c
  unfold Oper.wp execOp
  simp only [ho, resolve, invoke, builtin, Sem.run_bind, Sem.run_pure, Result.andThen_ok, List.map_toArray, List.map_cons, List.map_nil, hs, hx, hrun]
  exact h _ _ hown (Fr.refl _ _) (fun k hk => .inl (by simpa [Value.ownBlock] using hk.symm))
 ·obtain ⟨ad, rfl, _, hc⟩ := hr.2 (by omega)
  obtain ⟨v', w', hrun, ho', hg⟩ := run_append_arg_grows (P := P) (w := w) t o.type e i z size bytes ht hi hz hsize hby hzs hsz ⟨g, 0, none⟩ 0 0 [] (by simp) (by simp) ad m c news hr.1 hc (by omega) (by simp only [maxLen]; omega) (by simpa using hbytes)
  rw [Nat.zero_add] at ho'
  unfold Oper.wp execOp
  simp only [ho, resolve, invoke, builtin, Sem.run_bind, Sem.run_pure, Result.andThen_ok, List.map_toArray, List.map_cons, List.map_nil, hs, hx, hrun]
  refine h _ _ (own_base ho') ((Fr.grown hg).mono (fun _ _ e => by cases e)) (fun k hk => .inr ?_)
  rcases ho'.2 with ⟨rfl, _⟩ | ⟨g', cap', cur, rfl, hge, _⟩
  ·simp [Value.ownBlock] at hk
  ·simp [Value.ownBlock] at hk
   omega
def RowE (w : World) (v : Value) (L : List Ent) : Prop := w.ownsRow 0 89 6 v L.length (L.flatMap entC)
theorem RowE.fr0 {w w' : World} {v : Value} {L : List Ent} (h : RowE w v L) (hf : Fr Nothing w w') : RowE w' v L := own_fr h hf (fun _ _ x => x)
theorem RowE.nil (w : World) : RowE w (.slice none 0 0) [] := ⟨rfl, .inl ⟨rfl, rfl⟩⟩
theorem RowE.el {w : World} {A : Option Addr} {n c : Nat} {L : List Ent} (h : RowE w (.slice A n c) L) : n = L.length ∧ EL w (fun _ => True) A n L ∧ n ≤ c := by
 obtain ⟨A', m, c', e, hm, hc⟩ := own_slice h
 cases e
 have hm' := hm.out
 subst hm'
 exact ⟨rfl, ⟨(Rd.of_own h).any, rfl⟩, hc.out⟩
theorem RowE.form {w : World} {v : Value} {L : List Ent} (h : RowE w v L) : (v = .slice none 0 0 ∧ L = []) ∨ ∃ g c, v = .slice (some ⟨g, 0, none⟩) L.length c ∧ L.length ≤ c ∧ c ≤ maxLen := by
 rcases h.2 with ⟨rfl, h0⟩ | ⟨g, cap, cur, rfl, _, _, h1, h2, _⟩
 ·left
  refine ⟨rfl, List.length_eq_zero_iff.1 ?_⟩
  omega
 ·exact .inr ⟨g, cap, rfl, h1, h2⟩
theorem flatMap_entC_len (L : List Ent) : (L.flatMap entC).length = L.length * 6 := by
 induction L with
 | nil => rfl
 | cons x L ih => rw [List.flatMap_cons, List.length_append, ih, entC_length, List.length_cons]; omega
theorem flatMap_take (L : List Ent) (k : Nat) : (L.take k).flatMap entC = (L.flatMap entC).take (k * 6) := by
 induction L generalizing k with
 | nil => simp
 | cons x L ih =>
  cases k with
  | zero => simp
  | succ k =>
   rw [List.take_succ_cons, List.flatMap_cons, List.flatMap_cons, ih, List.take_append, entC_length, show (entC x).take ((k + 1) * 6) = entC x from List.take_of_length_le (by rw [entC_length]; omega), show (k + 1) * 6 - 6 = k * 6 by omega]
theorem flatMap_drop (L : List Ent) (k : Nat) : (L.drop k).flatMap entC = (L.flatMap entC).drop (k * 6) := by
 induction L generalizing k with
 | nil => simp
 | cons x L ih =>
  cases k with
  | zero => simp
  | succ k =>
   rw [List.drop_succ_cons, List.flatMap_cons, ih, List.drop_append, entC_length, show (entC x).drop ((k + 1) * 6) = [] from List.drop_of_length_le (by rw [entC_length]; omega), List.nil_append, show (k + 1) * 6 - 6 = k * 6 by omega]
theorem EL.take {w : World} {S : Nat → Prop} {A : Option Addr} {n k : Nat} {L : List Ent} (h : EL w S A n L) (hk : k ≤ n) : Rd w S 6 A k ((L.take k).flatMap entC) := by
 refine ⟨by rw [flatMap_entC_len, List.length_take, h.len]; omega, fun h0 => ?_⟩
 obtain ⟨ad, e, hs, hc⟩ := h.rd.2 (by omega)
 refine ⟨ad, e, hs, fun j u hu => hc j u ?_⟩
 rw [flatMap_take] at hu
 have hj := (List.getElem?_eq_some_iff.1 hu).1
 rw [List.getElem?_take_of_lt (by rw [List.length_take] at hj; omega)] at hu
 exact hu
theorem EL.drop {w : World} {S : Nat → Prop} {ad : Addr} {n k : Nat} {L : List Ent} (h : EL w S (some ad) n L) (hk : k ≤ n) : Rd w S 6 (some (ad.add (k * 6))) (n - k) ((L.drop k).flatMap entC) := by
 refine ⟨by rw [flatMap_entC_len, List.length_drop, h.len], fun h0 => ?_⟩
 obtain ⟨ad', e, hs, hc⟩ := h.rd.2 (by omega)
 cases e
 refine ⟨_, rfl, by unfold Addr.add; split <;> exact hs, fun j u hu => ?_⟩
 rw [Addr.add_add]
 refine hc _ u ?_
 rw [flatMap_drop, List.getElem?_drop] at hu
 exact hu
theorem rank_ins {n : NameV} {v : ByteArray} {L : List Ent} {k : Nat} {b : Bool} (h1 : ∀ y ∈ L.take k, cmpN y.1 n < 0) (h2 : (k = L.length ∧ b = false) ∨ ∃ x, L[k]? = some x ∧ ¬ cmpN x.1 n < 0 ∧ b = (cmpN n x.1 == 0)) :
  insL n v L = L.take k ++ (n, v) :: L.drop (if b = true then k + 1 else k) := by
 conv => lhs; rw [← List.take_append_drop k L]
 rw [insL_gt _ _ (fun y hy => cmpN_pos (h1 y hy))]
 congr 1
 rcases h2 with ⟨rfl, rfl⟩ | ⟨x, hx, hn, rfl⟩
 ·simp [insL]
 ·obtain ⟨hlt, hv⟩ := List.getElem?_eq_some_iff.1 hx
  rw [List.drop_eq_getElem_cons hlt, hv, insL]
  have ha := cmpN_is.anti n x.1
  by_cases e : cmpN n x.1 = 0
  ·rw [if_neg (by omega), if_pos e, if_pos (by rw [e]; rfl)]
  ·rw [if_pos (by omega), if_neg (by simp [e]), ← hv, ← List.drop_eq_getElem_cons hlt]
theorem rank_del {n : NameV} {L : List Ent} {k : Nat} {b : Bool} (hs : SortL L) (h1 : ∀ y ∈ L.take k, cmpN y.1 n < 0) (h2 : (k = L.length ∧ b = false) ∨ ∃ x, L[k]? = some x ∧ ¬ cmpN x.1 n < 0 ∧ b = (cmpN n x.1 == 0)) :
  (delL n L = if b = true then L.take k ++ L.drop (k + 1) else L) ∧ (findL n L = if b = true then (L[k]?).map (·.2) else none) := by
 have e0 : delL n L = L.take k ++ delL n (L.drop k) := by
  conv => lhs; rw [← List.take_append_drop k L]
  exact delL_gt _ _ (fun y hy => cmpN_pos (h1 y hy))
 have e1 : findL n L = findL n (L.drop k) := by
  conv => lhs; rw [← List.take_append_drop k L]
  exact findL_gt _ _ (fun y hy => cmpN_pos (h1 y hy))
 rcases h2 with ⟨rfl, rfl⟩ | ⟨x, hx, hn, rfl⟩
 ·rw [e0, e1]
  simp [delL, findL]
 ·obtain ⟨hlt, hv⟩ := List.getElem?_eq_some_iff.1 hx
  have ha := cmpN_is.anti n x.1
  by_cases e : cmpN n x.1 = 0
  ·rw [e0, e1, List.drop_eq_getElem_cons hlt, hv, delL, findL, if_pos e, if_pos e, if_pos (by rw [e]; rfl), if_pos (by rw [e]; rfl), hx]
   exact ⟨rfl, rfl⟩
  ·have hx2 : cmpN n x.1 < 0 := by omega
   have hall : ∀ y ∈ L.drop k, cmpN n y.1 < 0 := by
    intro y hy
    rw [List.drop_eq_getElem_cons hlt, hv] at hy
    rcases List.mem_cons.1 hy with rfl | hy
    ·exact hx2
    ·refine cmpN_is.trans _ _ _ hx2 ?_
     have hs2 : SortL (L.take k ++ x :: L.drop (k + 1)) := by
      rw [← hv, ← List.drop_eq_getElem_cons hlt, List.take_append_drop]
      exact hs
     exact (SortL.parts hs2).2.2.2 y hy
   have hf := findL_none _ hall
   rw [e0, e1, hf, delL_none hf, List.take_append_drop, if_neg (by simp [e]), if_neg (by simp [e])]
   exact ⟨rfl, rfl⟩
end Go.Proofs.YtpnchdgplpdefaaGreatDoor
namespace Go.Proofs.YtpnchdgplpdefaaGreatDoor
open Go.RowKit Go.Shelf
def entZ : Value := .agg #[.int .i64 0, .string ByteArray.empty, .int .i64 0, .int .i64 0, .string ByteArray.empty, .string ByteArray.empty]
theorem zinfoE : (Tryz.prog.info? 89).map (fun i => (i.zero, i.size, i.bytes)) = some (some entZ, 6, 72) := by kernel_rfl
theorem builtE (n : NameV) (v : ByteArray) : Tryz.prog.built 89 [(0, .agg n.cells.toArray), (1, .string v)] = some (entC (n, v)).toArray := by kernel_rfl
theorem foldl6 (cs b : Array Value) (hc : cs.size = 6) (hb : b.size = 6) : Instr.fill (fun i => some (i * 6, 6)) b [(0, .agg cs)] = some cs := by
 have hf := fold_arr cs b 0 (by omega)
 simp only [Instr.fill, Value.cells, hc, hb, Nat.zero_mul, Nat.zero_add, ne_eq, not_true_eq_false, decide_false, Bool.false_or, gt_iff_lt, Nat.lt_irrefl, Bool.false_eq_true, if_false]
 simp only [Nat.zero_add, List.take_zero, List.nil_append, hc] at hf
 rw [List.drop_of_length_le (by simp [hb]), List.append_nil] at hf
 rw [hf]
theorem rd_newE (w : World) (x : Ent) : Rd (w.alloc (.cells (entC x).toArray 89)) (fun _ => True) 6 (some ⟨w.heap.size, 0, none⟩) 1 (entC x) := by
 refine ⟨rfl, fun _ => ⟨_, rfl, trivial, fun j y hy => ?_⟩⟩
 rw [Addr.add_mid, Nat.zero_add, (Blk.new w 89 (entC x).toArray).cell, List.getElem?_toArray]
 exact hy
theorem entC_one (x : Ent) : ∀ u ∈ entC x, u.oneCell' = true := fun u hu => by
 simp [entC, NameV.cells] at hu
 rcases hu with rfl | rfl | rfl | rfl | rfl | rfl <;> rfl
theorem entsC_one (L : List Ent) : ∀ u ∈ L.flatMap entC, u.oneCell' = true := fun u hu => by
 obtain ⟨x, _, hx⟩ := List.mem_flatMap.1 hu
 exact entC_one x u hx
def RWithed (w : World) (L : List Ent) (n : NameV) (v : ByteArray) (e : Ending) (w' : World) : Prop := ∃ p k, e = .returned (.tuple #[p, .int .i64 k]) ∧ Fr Nothing w w' ∧
 ((okNm n = true ∧ v.size ≤ 65536 ∧ k = 0 ∧ RowE w' p (insL n v L)) ∨ (okNm n = false ∧ k = 12 ∧ p = .slice none 0 0) ∨ (okNm n = true ∧ 65536 < v.size ∧ k = 5 ∧ p = .slice none 0 0))
def RWithouted (w : World) (L : List Ent) (n : NameV) (e : Ending) (w' : World) : Prop := ∃ p k, e = .returned (.tuple #[p, .int .i64 k]) ∧ Fr Nothing w w' ∧
 ((okNm n = true ∧ k = 0 ∧ RowE w' p (delL n L)) ∨ (okNm n = false ∧ k = 12 ∧ p = .slice none 0 0))
structure NewE (w0 w : World) (v : Value) (L : List Ent) : Prop where
 row : RowE w v L
 new : ∀ k, v.ownBlock = some k → w0.heap.size ≤ k
theorem NewE.fr0 {w0 w w' : World} {v : Value} {L : List Ent} (h : NewE w0 w v L) (hf : Fr Nothing w w') : NewE w0 w' v L := ⟨h.row.fr0 hf, h.new⟩
theorem NewE.grew {w0 w w' : World} {v v' : Value} {L M : List Ent} {n : Nat} (h : NewE w0 w v L) (h0 : Fr Nothing w0 w) (hg : Grew 89 6 w v w' v' n (L.flatMap entC ++ M.flatMap entC)) (hn : n = L.length + M.length) : NewE w0 w' v' (L ++ M) ∧ Fr Nothing w0 w' := by
 subst hn
 refine ⟨⟨?_, fun k hk => ?_⟩, h0.then_ hg.fr (fun i hi e => by have := h.new i e; omega)⟩
 ·unfold RowE
  rw [List.length_append, List.flatMap_append]
  exact hg.own
 ·rcases hg.lies k hk with h1 | h1
  ·exact h.new k h1
  ·have := h0.size
   omega
set_option maxRecDepth 100000 in
set_option maxHeartbeats 8000000 in
theorem rWith_any (L : List Ent) (n : NameV) (v : ByteArray) (rv : Value) (w : World) (hR : RowE w rv L) (hG : GoodL L) (hN : GoodN n) :
  Calls Tryz.prog 83 #[rv, .agg n.cells.toArray, .string v] w (RWithed w L n v) := by
 obtain ⟨i0, hi0, hz0', hz1, hz2⟩ := info_parts zinfoE
 obtain ⟨A, m0, c, rfl, hm0, _⟩ := own_slice hR
 obtain ⟨hlen, hel, hmc⟩ := hR.el
 clear hm0
 have HEL := Lib.hid hel
 have HR := Lib.hid hR
 have HLE := Lib.hid hlen
 have HCAP : Hid (m0 ≤ c ∧ c ≤ 9223372036854775807 ∧ (A = none → m0 = 0 ∧ c = 0)) := by
  rcases hR.form with ⟨h1, h2⟩ | ⟨g, c', h1, h2, h3⟩
  ·cases h1; exact ⟨by omega, by omega, fun _ => ⟨rfl, rfl⟩⟩
  ·cases h1; unfold maxLen at h3; exact ⟨h2, h3, fun h => by cases h⟩
 have hm6 : m0 ≤ 60000 := by have := hG.len; omega
 have HM6 := Lib.hid hm6
 have CF : Hid (∀ w', Fr Nothing w w' → Calls Tryz.prog 98 #[.slice A m0 c, .agg n.cells.toArray] w' (RFound w' n L)) := fun w' f => rFind_any n L A m0 c _ w' (hel.fr0 f) hm6 hN.owner hG.short
 have CK : Hid (∀ w', Calls Tryz.prog 65 #[.agg n.cells.toArray] w' (Checked w' n)) := fun w' => rCheck_any n w' hN.owner hN.text
 clear hR hel hG hN hlen hmc
 go_enter Tryz.func83, Tryz.ntmps83
 go_wp2_with (refine wpList_boxBlk rfl 57 (.tmp 1) rfl n.cells.toArray rfl ?_)
 intro w1 n1
 have F1 := Lib.hid n1.fr
 have NB0 := Lib.hid n1.blk
 clear n1
 generalize w.heap.size = gb at *
 have NB : Hid (Blk w1 gb 57 n.cells.toArray) := NB0.out
 clear NB0
 go_wp2_with (refine wpList_load_add rfl 57 (.tmp 4) rfl ⟨gb, 0, none⟩ rfl n.cells _ ?hcc1 Tryz.underlying57 rfl infoN (Held.go ?hold1))
 case hcc1 => exact fun j x hx => by rw [Addr.add_mid, Nat.zero_add]; exact NB.out.cell j |>.trans (by rw [List.getElem?_toArray]; exact hx)
 unfold Held
 go_wp2_with fail
 refine (CF.out _ F1.out).mono ?_
 rintro e w2 ⟨k, b, rfl, f2, hk, hlt, hcase⟩
 have F2 := Lib.hid (F1.out.trans f2)
 have NB2 := Lib.hid (NB.out.fr f2 (fun x => x))
 have HK : Hid (k ≤ m0) := by have := HLE.out; simp only [Hid]; omega
 have HINS : Hid (insL n v L = L.take k ++ (n, v) :: L.drop (if b = true then k + 1 else k)) := rank_ins hlt hcase
 have HBK : Hid (b = true → k + 1 ≤ m0) := fun hb => by
  rcases hcase with ⟨_, h⟩ | ⟨x, hx, _, _⟩
  ·rw [hb] at h; cases h
  ·have := (List.getElem?_eq_some_iff.1 hx).1
   have := HLE.out
   omega
 clear f2 hk hlt hcase NB CF
 go_wp2_with (refine wpList_load_add rfl 57 (.tmp 4) rfl ⟨gb, 0, none⟩ rfl n.cells _ ?hcc2 Tryz.underlying57 rfl infoN (Held.go ?hold2))
 case hcc2 => exact fun j x hx => by rw [Addr.add_mid, Nat.zero_add]; exact NB2.out.cell j |>.trans (by rw [List.getElem?_toArray]; exact hx)
 unfold Held
 go_wp2_with fail
 refine (CK.out _).mono ?_
 rintro e w3 ⟨q, rfl, hq, f3⟩
 have F3 := Lib.hid (F2.out.trans f3)
 have NB3 := Lib.hid (NB2.out.fr f3 (fun x => x))
 have HQ := Lib.hid hq
 clear f3 hq NB2 F1 CK
 cases hok : okNm n
 ·have hq0 : q ≠ 0 := by
   have h := HQ.out
   rw [hok] at h
   exact beq_eq_false_iff_ne.1 h
  have t0 := bne0 hq0
  have HOK := Lib.hid hok
  clear hok hq0
  go_wp2
  go_ret2
  exact ⟨_, 12, rfl, F3.out, .inr (.inl ⟨HOK.out, rfl, rfl⟩)⟩
 ·have hq0 : q = 0 := by
   have h := HQ.out
   rw [hok] at h
   exact beq_iff_eq.1 h
  subst hq0
  have HOK := Lib.hid hok
  clear hok
  by_cases hv : v.size ≤ 65536
  ·have tv : decide ((65536 : Int) < (v.size : Int)) = false := decide_eq_false (by omega)
   have HV := Lib.hid hv
   have tl : decide ((65536 : Int) ≤ (m0 : Int)) = false := decide_eq_false (by have := HM6.out; omega)
   have tl' : ¬ (65536 : Int) ≤ (m0 : Int) := by have := HM6.out; omega
   have gc1 : Hid (¬ 1 * i0.size > 2 ^ 24) := by simp only [Hid]; rw [hz1]; omega
   have gc2 : Hid (¬ 1 * i0.size = 0) := by simp only [Hid]; rw [hz1]; omega
   have FS : Hid (Instr.fill (fun i => some (i * i0.size, i0.size)) ((Array.range (1 * i0.size)).map (entZ.cells[· % entZ.cells.size]!)) [(0, .agg (entC (n, v)).toArray)] = some (entC (n, v)).toArray) := by simp only [Hid]; rw [hz1]; exact foldl6 _ _ rfl (by simp [entZ, Value.cells])
   have BE := Lib.hid (builtE n v)
   have kc : (k : Int) ≤ (c : Int) := by have := HCAP.out.1; have := HK.out; omega
   have kc' : k ≤ c := by omega
   have k0 : (0 : Int) ≤ (k : Int) := by omega
   have HK2 : Hid (k ≤ m0) := HK.out
   obtain ⟨wS, hwS⟩ : ∃ wS, wS = w3 := ⟨_, rfl⟩
   have HWS := Lib.hid hwS
   clear hv hwS
   cases b
   ·skip
    go_upto_region 8 with fail
    refine wp_region_st 9 Nothing [(fun zv zW => ∃ zg, zv = .slice (some ⟨zg, 0, none⟩) 0 0 ∧ NewE w3 zW zv []), Is (.slice A m0 c), Is (.int .i64 (k : Int)), Is (.slice A k c), (fun zv zW => NewE w3 zW zv (L.take k)), Is (.agg n.cells.toArray), Is (.string v), Is (.agg (entC (n, v)).toArray), (fun zv zW => ∃ zg, zv = .slice (some ⟨zg, 0, none⟩) 1 1 ∧ Rd zW (fun _ => True) 6 (some ⟨zg, 0, none⟩) 1 (entC (n, v)))] [] (fun _ => True) (fun _ _ => false) (by kernel_rfl) (by kernel_rfl) (by kernel_rfl) (by kernel_rfl) ⟨fun _ _ _ _ f h => by obtain ⟨g, e, hn⟩ := h; exact ⟨g, e, hn.fr0 f⟩, Is.stable _, Is.stable _, Is.stable _, fun _ _ _ _ f h => h.fr0 f, Is.stable _, Is.stable _, Is.stable _, fun _ _ _ _ f h => by obtain ⟨g, e, hn⟩ := h; exact ⟨g, e, hn.fr0 f⟩, trivial⟩ trivial (fun _ _ _ _ h => h) trivial ?_ ?_
    ·refine ⟨fun u w' d hf hR k1 k0 kM => ?_, fun u w' d hf hR k1 k0 kM => ?_, fun u w' d hf hR k1 k0 kM => ?_, fun u w' d hf hR k1 k0 kM => ?_, fun u w' d hf hR k1 k0 kM => ?_, fun u w' d hf hR k1 k0 kM => ?_, fun u w' d hf hR k1 k0 kM => ?_, fun u w' d hf hR k1 k0 kM => ?_, fun u w' d hf hR k1 k0 kM => ?_, trivial⟩
     all_goals simp only [List.take_succ_cons, List.take_zero, List.map_cons, List.map_nil, puts, Act.put, List.setIfInBounds_toArray, List.set_cons_zero, List.set_cons_succ, Nat.reduceAdd, Nat.zero_add]
     ·clear hR k1 k0 kM
      refine .inl ⟨by kernel_rfl, ?_⟩
      refine wp_emptyRow 25 89 rfl i0 Tryz.underlying25 hi0 ?_
      intro w4 n4
      exact ⟨_, rfl, n4.fr, ⟨_, rfl, ⟨n4.own0, fun k hk => by simp [Value.ownBlock] at hk; have := hf.size; omega⟩⟩, trivial⟩
     ·clear hR k1 k0 kM
      refine .inl ⟨by kernel_rfl, ?_⟩
      go_simp
      exact ⟨_, rfl, Fr.refl _ _, rfl, trivial⟩
     ·clear hR k1 k0 kM
      refine .inl ⟨by kernel_rfl, ?_⟩
      go_simp
      exact ⟨_, rfl, Fr.refl _ _, rfl, trivial⟩
     ·have h1 : u 1 = _ := hR 1 (by kernel_rfl)
      have h2 : u 2 = _ := hR 2 (by kernel_rfl)
      clear hR k1 k0 kM
      simp only [h1, h2]
      refine .inl ⟨by kernel_rfl, ?_⟩
      go_simp
      exact ⟨_, rfl, Fr.refl _ _, rfl, trivial⟩
     ·obtain ⟨g0, e0, m0' ⟩ := hR 0 (by kernel_rfl)
      have h3 : u 3 = _ := hR 3 (by kernel_rfl)
      clear hR k1 k0 kM
      simp only [e0, h3]
      refine .inl ⟨by kernel_rfl, ?_⟩
      refine wp_appE _ _ 25 rfl 89 i0 entZ 6 72 Tryz.underlying25 hi0 hz0' hz1 hz2 rfl (by omega) g0 rfl (by have h := m0'.row; rw [e0] at h; exact h) _ A k c ((L.take k).flatMap entC) rfl ((HEL.out.fr0 (F3.out.trans hf)).take HK2.out) (by have := HM6.out; have := HK2.out; omega) (by have := HM6.out; have := HK2.out; omega) ?_
      intro v4 w4 ho4 f4 hl4
      refine ⟨_, rfl, f4, ⟨?_, fun b hb => ?_⟩, trivial⟩
      ·unfold RowE
       rw [List.length_take, show min k L.length = k by have := HLE.out; have := HK2.out; omega]
       exact ho4
      ·rcases hl4 b hb with rfl | h
       ·exact m0'.new _ (by rw [e0]; rfl)
       ·have := hf.size
        omega
     ·clear hR k1 k0 kM
      refine .inl ⟨by kernel_rfl, ?_⟩
      exact wp_load_add _ _ rfl ⟨gb, 0, none⟩ rfl n.cells _ (fun j x hx => by rw [Addr.add_mid, Nat.zero_add]; exact (NB3.out.fr hf (fun x => x)).cell j |>.trans (by rw [List.getElem?_toArray]; exact hx)) Tryz.underlying57 rfl infoN ⟨_, rfl, Fr.refl _ _, rfl, trivial⟩
     ·clear hR k1 k0 kM
      refine .inl ⟨by kernel_rfl, ?_⟩
      go_simp
      exact ⟨_, rfl, Fr.refl _ _, rfl, trivial⟩
     ·have h5 : u 5 = _ := hR 5 (by kernel_rfl)
      have h6 : u 6 = _ := hR 6 (by kernel_rfl)
      clear hR k1 k0 kM
      simp only [h5, h6]
      refine .inl ⟨by kernel_rfl, ?_⟩
      exact wp_builtA 89 _ rfl (entC (n, v)).toArray _ (by simp only [List.map_toArray, List.map_cons, List.map_nil]; rfl) (BE.out) ⟨_, rfl, Fr.refl _ _, rfl, trivial⟩
     ·have h7 : u 7 = _ := hR 7 (by kernel_rfl)
      clear hR k1 k0 kM
      simp only [h7]
      refine .inl ⟨by kernel_rfl, ?_⟩
      refine wp_buildSlice 25 89 1 _ rfl (entC (n, v)).toArray i0 entZ Tryz.underlying25 hi0 hz0' gc1.out gc2.out (by simp only [List.map_toArray, List.map_cons, List.map_nil]; exact FS.out) ?_
      exact ⟨_, rfl, (Fr.refl _ _).alloc _, ⟨_, rfl, rd_newE w' (n, v)⟩, trivial⟩
    ·intro u w' hf hR kM
     have q4 : NewE w3 w' (u 4) (L.take k) := hR 4 (by omega)
     obtain ⟨g8, e8, rd8⟩ := hR 8 (by omega)
     clear hR kM
     obtain ⟨A4, m4, c4, e4, hm4, _⟩ := own_slice q4.row
     simp only [List.take_succ_cons, List.take_zero, List.map_cons, List.map_nil, puts, Act.put, List.setIfInBounds_toArray, List.set_cons_zero, List.set_cons_succ, List.drop_succ_cons, List.drop_zero, Nat.reduceAdd, Nat.zero_add, e4, e8]
     rw [e4] at q4
     have Q4 := Lib.hid q4
     have RD8 := Lib.hid rd8
     have HF := Lib.hid hf
     clear hf q4 rd8 e4 e8
     go_wp2_with (at_builtin; refine wpList_app _ rfl _ _ 25 rfl 89 i0 entZ 6 72 Tryz.underlying25 hi0 hz0' hz1 hz2 rfl (by omega) _ _ _ rfl Q4.out.row _ _ 1 _ _ rfl RD8.out ?e1f ?e2f (by omega) ?_)
     case e1f => exact entC_one _
     case e2f => have := HM6.out; have := HK2.out; rw [List.length_take]; omega
     intro v5 w5 hG5
     have NG := Lib.hid (Q4.out.grew HF.out (M := [(n, v)]) (by simpa using hG5) rfl)
     obtain ⟨A5, m5, c5, rfl, _, _⟩ := own_slice hG5.own
     have F5 := Lib.hid (F3.out.trans NG.out.2)
     clear hG5
     have HIN : Hid (insL n v L = L.take k ++ (n, v) :: L.drop k) := (by have h := HINS.out; simp at h; exact h)
     cases A with
     | none =>
      obtain ⟨rfl, rfl⟩ := HCAP.out.2.2 rfl
      obtain rfl : L = [] := List.length_eq_zero_iff.1 HLE.out.symm
      obtain rfl : k = 0 := by have := HK2.out; omega
      go_wp2_with (at_builtin; refine wpList_app _ rfl _ _ 25 rfl 89 i0 entZ 6 72 Tryz.underlying25 hi0 hz0' hz1 hz2 rfl (by omega) _ _ _ rfl NG.out.1.row (fun _ => True) none 0 _ [] rfl Rd.none_ (fun u hu => by cases hu) (by simp) (by omega) ?_)
      intro v6 w6 hG6
      have NH := NG.out.1.grew (M := []) NG.out.2 (by simpa using hG6) (by simp)
      have NHH := Lib.hid NH
      clear hG6 NH
      go_wp2
      go_ret2
      refine ⟨_, 0, rfl, F3.out.trans NHH.out.2, .inl ⟨HOK.out, HV.out, rfl, ?_⟩⟩
      rw [HIN.out]
      have h := NHH.out.1.row
      simpa using h
     | some ad =>
      have z1 : k ≤ m0 := HK2.out
      obtain ⟨k1, hk1⟩ : ∃ k1, k1 = k := ⟨_, rfl⟩
      skip
      rw [← hk1] at HIN z1
      have HZ1 := Lib.hid z1
      have t2 : (k1 : Int) ≤ (m0 : Int) := by omega
      have t2' : (0 : Int) ≤ (k1 : Int) := by omega
      have t3 : m0 ≤ c := HCAP.out.1
      have t4 : (m0 : Int) ≤ (c : Int) := by omega
      subst hk1
      by_cases hck : c = k1
      ·have HCK := Lib.hid hck
       have hmk : Hid (m0 = k1) := by simp only [Hid]; omega
       have hdr : Hid (L.drop k1 = []) := List.drop_of_length_le (by have := hmk.out; have := HLE.out; omega)
       have hz : m0 - k1 = 0 := by omega
       go_wp2_with (at_builtin; refine wpList_app _ rfl _ _ 25 rfl 89 i0 entZ 6 72 Tryz.underlying25 hi0 hz0' hz1 hz2 rfl (by omega) _ _ _ rfl NG.out.1.row (fun _ => True) (some ad) 0 _ ([]) rfl ⟨rfl, fun h0 => absurd h0 (by omega)⟩ (fun u hu => by cases hu) (by have := HM6.out; have := HZ1.out; simp only [List.length_append, List.length_take, List.length_singleton]; omega) (by omega) ?_)
       intro v6 w6 hG6
       have NH := NG.out.1.grew (M := []) NG.out.2 (by simpa using hG6) (by simp)
       have NHH := Lib.hid NH
       clear hG6 NH
       go_wp2
       go_ret2
       refine ⟨_, 0, rfl, F3.out.trans NHH.out.2, .inl ⟨HOK.out, HV.out, rfl, ?_⟩⟩
       rw [HIN.out, hdr.out]
       have h := NHH.out.1.row
       simpa using h
      ·have HCK := Lib.hid hck
       go_wp2_with (at_builtin; refine wpList_app _ rfl _ _ 25 rfl 89 i0 entZ 6 72 Tryz.underlying25 hi0 hz0' hz1 hz2 rfl (by omega) _ _ _ rfl NG.out.1.row (fun _ => True) (some (ad.add (k1 * 6))) (m0 - k1) _ ((L.drop k1).flatMap entC) rfl ((HEL.out.fr0 F5.out).drop z1) (entsC_one _) (by have := HM6.out; have := HZ1.out; simp only [List.length_append, List.length_take, List.length_singleton]; omega) (by omega) ?_)
       intro v6 w6 hG6
       have hG7 : Grew 89 6 w5 (.slice A5 m5 c5) w6 v6 (min k1 L.length + 1 + (m0 - k1)) ((L.take k1 ++ [(n, v)]).flatMap entC ++ (L.drop k1).flatMap entC) := by simpa using hG6
       have NH := NG.out.1.grew (M := L.drop k1) NG.out.2 hG7 (by simp only [List.length_append, List.length_take, List.length_singleton, List.length_drop]; have := HLE.out; omega)
       have NHH := Lib.hid NH
       clear hG6 NH
       go_wp2
       go_ret2
       refine ⟨_, 0, rfl, F3.out.trans NHH.out.2, .inl ⟨HOK.out, HV.out, rfl, ?_⟩⟩
       rw [HIN.out]
       have h := NHH.out.1.row
       simpa using h
   ·skip
    go_upto_region 8 with fail
    refine wp_region_st 9 Nothing [(fun zv zW => ∃ zg, zv = .slice (some ⟨zg, 0, none⟩) 0 0 ∧ NewE w3 zW zv []), Is (.slice A m0 c), Is (.int .i64 (k : Int)), Is (.slice A k c), (fun zv zW => NewE w3 zW zv (L.take k)), Is (.agg n.cells.toArray), Is (.string v), Is (.agg (entC (n, v)).toArray), (fun zv zW => ∃ zg, zv = .slice (some ⟨zg, 0, none⟩) 1 1 ∧ Rd zW (fun _ => True) 6 (some ⟨zg, 0, none⟩) 1 (entC (n, v)))] [] (fun _ => True) (fun _ _ => false) (by kernel_rfl) (by kernel_rfl) (by kernel_rfl) (by kernel_rfl) ⟨fun _ _ _ _ f h => by obtain ⟨g, e, hn⟩ := h; exact ⟨g, e, hn.fr0 f⟩, Is.stable _, Is.stable _, Is.stable _, fun _ _ _ _ f h => h.fr0 f, Is.stable _, Is.stable _, Is.stable _, fun _ _ _ _ f h => by obtain ⟨g, e, hn⟩ := h; exact ⟨g, e, hn.fr0 f⟩, trivial⟩ trivial (fun _ _ _ _ h => h) trivial ?_ ?_
    ·refine ⟨fun u w' d hf hR k1 k0 kM => ?_, fun u w' d hf hR k1 k0 kM => ?_, fun u w' d hf hR k1 k0 kM => ?_, fun u w' d hf hR k1 k0 kM => ?_, fun u w' d hf hR k1 k0 kM => ?_, fun u w' d hf hR k1 k0 kM => ?_, fun u w' d hf hR k1 k0 kM => ?_, fun u w' d hf hR k1 k0 kM => ?_, fun u w' d hf hR k1 k0 kM => ?_, trivial⟩
     all_goals simp only [List.take_succ_cons, List.take_zero, List.map_cons, List.map_nil, puts, Act.put, List.setIfInBounds_toArray, List.set_cons_zero, List.set_cons_succ, Nat.reduceAdd, Nat.zero_add]
     ·clear hR k1 k0 kM
      refine .inl ⟨by kernel_rfl, ?_⟩
      refine wp_emptyRow 25 89 rfl i0 Tryz.underlying25 hi0 ?_
      intro w4 n4
      exact ⟨_, rfl, n4.fr, ⟨_, rfl, ⟨n4.own0, fun k hk => by simp [Value.ownBlock] at hk; have := hf.size; omega⟩⟩, trivial⟩
     ·clear hR k1 k0 kM
      refine .inl ⟨by kernel_rfl, ?_⟩
      go_simp
      exact ⟨_, rfl, Fr.refl _ _, rfl, trivial⟩
     ·clear hR k1 k0 kM
      refine .inl ⟨by kernel_rfl, ?_⟩
      go_simp
      exact ⟨_, rfl, Fr.refl _ _, rfl, trivial⟩
     ·have h1 : u 1 = _ := hR 1 (by kernel_rfl)
      have h2 : u 2 = _ := hR 2 (by kernel_rfl)
      clear hR k1 k0 kM
      simp only [h1, h2]
      refine .inl ⟨by kernel_rfl, ?_⟩
      go_simp
      exact ⟨_, rfl, Fr.refl _ _, rfl, trivial⟩
     ·obtain ⟨g0, e0, m0' ⟩ := hR 0 (by kernel_rfl)
      have h3 : u 3 = _ := hR 3 (by kernel_rfl)
      clear hR k1 k0 kM
      simp only [e0, h3]
      refine .inl ⟨by kernel_rfl, ?_⟩
      refine wp_appE _ _ 25 rfl 89 i0 entZ 6 72 Tryz.underlying25 hi0 hz0' hz1 hz2 rfl (by omega) g0 rfl (by have h := m0'.row; rw [e0] at h; exact h) _ A k c ((L.take k).flatMap entC) rfl ((HEL.out.fr0 (F3.out.trans hf)).take HK2.out) (by have := HM6.out; have := HK2.out; omega) (by have := HM6.out; have := HK2.out; omega) ?_
      intro v4 w4 ho4 f4 hl4
      refine ⟨_, rfl, f4, ⟨?_, fun b hb => ?_⟩, trivial⟩
      ·unfold RowE
       rw [List.length_take, show min k L.length = k by have := HLE.out; have := HK2.out; omega]
       exact ho4
      ·rcases hl4 b hb with rfl | h
       ·exact m0'.new _ (by rw [e0]; rfl)
       ·have := hf.size
        omega
     ·clear hR k1 k0 kM
      refine .inl ⟨by kernel_rfl, ?_⟩
      exact wp_load_add _ _ rfl ⟨gb, 0, none⟩ rfl n.cells _ (fun j x hx => by rw [Addr.add_mid, Nat.zero_add]; exact (NB3.out.fr hf (fun x => x)).cell j |>.trans (by rw [List.getElem?_toArray]; exact hx)) Tryz.underlying57 rfl infoN ⟨_, rfl, Fr.refl _ _, rfl, trivial⟩
     ·clear hR k1 k0 kM
      refine .inl ⟨by kernel_rfl, ?_⟩
      go_simp
      exact ⟨_, rfl, Fr.refl _ _, rfl, trivial⟩
     ·have h5 : u 5 = _ := hR 5 (by kernel_rfl)
      have h6 : u 6 = _ := hR 6 (by kernel_rfl)
      clear hR k1 k0 kM
      simp only [h5, h6]
      refine .inl ⟨by kernel_rfl, ?_⟩
      exact wp_builtA 89 _ rfl (entC (n, v)).toArray _ (by simp only [List.map_toArray, List.map_cons, List.map_nil]; rfl) (BE.out) ⟨_, rfl, Fr.refl _ _, rfl, trivial⟩
     ·have h7 : u 7 = _ := hR 7 (by kernel_rfl)
      clear hR k1 k0 kM
      simp only [h7]
      refine .inl ⟨by kernel_rfl, ?_⟩
      refine wp_buildSlice 25 89 1 _ rfl (entC (n, v)).toArray i0 entZ Tryz.underlying25 hi0 hz0' gc1.out gc2.out (by simp only [List.map_toArray, List.map_cons, List.map_nil]; exact FS.out) ?_
      exact ⟨_, rfl, (Fr.refl _ _).alloc _, ⟨_, rfl, rd_newE w' (n, v)⟩, trivial⟩
    ·intro u w' hf hR kM
     have q4 : NewE w3 w' (u 4) (L.take k) := hR 4 (by omega)
     obtain ⟨g8, e8, rd8⟩ := hR 8 (by omega)
     clear hR kM
     obtain ⟨A4, m4, c4, e4, hm4, _⟩ := own_slice q4.row
     simp only [List.take_succ_cons, List.take_zero, List.map_cons, List.map_nil, puts, Act.put, List.setIfInBounds_toArray, List.set_cons_zero, List.set_cons_succ, List.drop_succ_cons, List.drop_zero, Nat.reduceAdd, Nat.zero_add, e4, e8]
     rw [e4] at q4
     have Q4 := Lib.hid q4
     have RD8 := Lib.hid rd8
     have HF := Lib.hid hf
     clear hf q4 rd8 e4 e8
     go_wp2_with (at_builtin; refine wpList_app _ rfl _ _ 25 rfl 89 i0 entZ 6 72 Tryz.underlying25 hi0 hz0' hz1 hz2 rfl (by omega) _ _ _ rfl Q4.out.row _ _ 1 _ _ rfl RD8.out ?e1t ?e2t (by omega) ?_)
     case e1t => exact entC_one _
     case e2t => have := HM6.out; have := HK2.out; rw [List.length_take]; omega
     intro v5 w5 hG5
     have NG := Lib.hid (Q4.out.grew HF.out (M := [(n, v)]) (by simpa using hG5) rfl)
     obtain ⟨A5, m5, c5, rfl, _, _⟩ := own_slice hG5.own
     have F5 := Lib.hid (F3.out.trans NG.out.2)
     clear hG5
     have HIN : Hid (insL n v L = L.take k ++ (n, v) :: L.drop (k + 1)) := (by have h := HINS.out; simp at h; exact h)
     cases A with
     | none =>
      obtain ⟨rfl, rfl⟩ := HCAP.out.2.2 rfl
      obtain rfl : L = [] := List.length_eq_zero_iff.1 HLE.out.symm
      obtain rfl : k = 0 := by have := HK2.out; omega
      exact absurd (HBK.out (by first | rfl | trivial)) (by omega)
     | some ad =>
      have z1 : (k + 1) ≤ m0 := HBK.out (by first | rfl | trivial)
      obtain ⟨k1, hk1⟩ : ∃ k1, k1 = (k + 1) := ⟨_, rfl⟩
      have t1 : (k : Int) + 1 = (k1 : Int) := by omega
      rw [← hk1] at HIN z1
      have HZ1 := Lib.hid z1
      have t2 : (k1 : Int) ≤ (m0 : Int) := by omega
      have t2' : (0 : Int) ≤ (k1 : Int) := by omega
      have t3 : m0 ≤ c := HCAP.out.1
      have t4 : (m0 : Int) ≤ (c : Int) := by omega
      clear hk1
      by_cases hck : c = k1
      ·have HCK := Lib.hid hck
       have hmk : Hid (m0 = k1) := by simp only [Hid]; omega
       have hdr : Hid (L.drop k1 = []) := List.drop_of_length_le (by have := hmk.out; have := HLE.out; omega)
       have hz : m0 - k1 = 0 := by omega
       go_wp2_with (at_builtin; refine wpList_app _ rfl _ _ 25 rfl 89 i0 entZ 6 72 Tryz.underlying25 hi0 hz0' hz1 hz2 rfl (by omega) _ _ _ rfl NG.out.1.row (fun _ => True) (some ad) 0 _ ([]) rfl ⟨rfl, fun h0 => absurd h0 (by omega)⟩ (fun u hu => by cases hu) (by have := HM6.out; have := HZ1.out; simp only [List.length_append, List.length_take, List.length_singleton]; omega) (by omega) ?_)
       intro v6 w6 hG6
       have NH := NG.out.1.grew (M := []) NG.out.2 (by simpa using hG6) (by simp)
       have NHH := Lib.hid NH
       clear hG6 NH
       go_wp2
       go_ret2
       refine ⟨_, 0, rfl, F3.out.trans NHH.out.2, .inl ⟨HOK.out, HV.out, rfl, ?_⟩⟩
       rw [HIN.out, hdr.out]
       have h := NHH.out.1.row
       simpa using h
      ·have HCK := Lib.hid hck
       go_wp2_with (at_builtin; refine wpList_app _ rfl _ _ 25 rfl 89 i0 entZ 6 72 Tryz.underlying25 hi0 hz0' hz1 hz2 rfl (by omega) _ _ _ rfl NG.out.1.row (fun _ => True) (some (ad.add (k1 * 6))) (m0 - k1) _ ((L.drop k1).flatMap entC) rfl ((HEL.out.fr0 F5.out).drop z1) (entsC_one _) (by have := HM6.out; have := HZ1.out; simp only [List.length_append, List.length_take, List.length_singleton]; omega) (by omega) ?_)
       intro v6 w6 hG6
       have hG7 : Grew 89 6 w5 (.slice A5 m5 c5) w6 v6 (min k L.length + 1 + (m0 - k1)) ((L.take k ++ [(n, v)]).flatMap entC ++ (L.drop k1).flatMap entC) := by simpa using hG6
       have NH := NG.out.1.grew (M := L.drop k1) NG.out.2 hG7 (by simp only [List.length_append, List.length_take, List.length_singleton, List.length_drop]; have := HLE.out; omega)
       have NHH := Lib.hid NH
       clear hG6 NH
       go_wp2
       go_ret2
       refine ⟨_, 0, rfl, F3.out.trans NHH.out.2, .inl ⟨HOK.out, HV.out, rfl, ?_⟩⟩
       rw [HIN.out]
       have h := NHH.out.1.row
       simpa using h
  ·have tv : decide ((65536 : Int) < (v.size : Int)) = true := decide_eq_true (by omega)
   have HV : Hid (65536 < v.size) := by simp only [Hid]; omega
   clear hv
   go_wp2
   go_ret2
   exact ⟨_, 5, rfl, F3.out, .inr (.inr ⟨HOK.out, HV.out, rfl, rfl⟩)⟩
end Go.Proofs.YtpnchdgplpdefaaGreatDoor
