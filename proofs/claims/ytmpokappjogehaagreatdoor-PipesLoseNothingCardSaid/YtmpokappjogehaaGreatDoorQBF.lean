/- Steps of the proof of LawPipesLoseNothing: contracts of the functions that the law reaches, for every world that holds what each of them asks. -/
import Derived.Test.YtmpokappjogehaaGreatDoorQBA
import Derived.Test.YtmpokappjogehaaGreatDoorQBE
set_option linter.unusedVariables false
set_option linter.unusedSimpArgs false
namespace Go.Proofs.YtmpokappjogehaaGreatDoor
namespace Ev
open Go Go.RowKit
attribute [local go_sem] Oper.semAt_some

theorem zvErr (w : World) : (zeroValue 27).run Tryz.prog w = .ok (.int .i64 0) w := by kernel_rfl
theorem zvNode (w : World) : ∃ z : Array Value, (∀ w, (zeroValue 119).run Tryz.prog w = .ok (.agg z) w) ∧ z.size = 7 := ⟨#[.int .i64 0, .int .i64 0, .int .i64 0, .int .i64 0, .int .i64 0, .int .i64 0, .string ByteArray.empty], fun w => by kernel_rfl, rfl⟩
theorem infoNode : (Tryz.prog.info? 119).map (·.size) = some 7 := by kernel_rfl
/-- The boxes of a call of Write. -/
structure Bx (W : World) (gv gb gf gs g8 g9 v : Nat) (bc : BirthV) (sb : ByteArray) : Prop where
  v : Blk W gv 23 #[.pointer (some ⟨v, 0, none⟩)]
  b : Blk W gb 48 bc.cells.toArray
  f : Blk W gf 3 #[.int .i64 0]
  s : Blk W gs 9 #[.string sb]
  r8 : Blk W g8 3 #[.int .i64 0]
  r9 : Blk W g9 27 #[.int .i64 0]
theorem Bx.fr {W W' : World} {T : Nat → Prop} {gv gb gf gs g8 g9 v : Nat} {bc : BirthV} {sb : ByteArray} (h : Bx W gv gb gf gs g8 g9 v bc sb) (f : Fr T W W') (hT : ∀ g, gv ≤ g → g ≤ g9 → ¬ T g) (ho : gv < gb ∧ gb < gf ∧ gf < gs ∧ gs < g8 ∧ g8 < g9) : Bx W' gv gb gf gs g8 g9 v bc sb :=
  ⟨h.v.fr f (hT _ (by omega) (by omega)), h.b.fr f (hT _ (by omega) (by omega)), h.f.fr f (hT _ (by omega) (by omega)), h.s.fr f (hT _ (by omega) (by omega)), h.r8.fr f (hT _ (by omega) (by omega)), h.r9.fr f (hT _ (by omega) (by omega))⟩
theorem nodeZ_conc {ρ : Nat → Value} {n : List EV} {z : Int} (h : nodeZ n = some z) : ∃ ns : List Value, (∀ σ, EV.concs σ ρ n = some ns) ∧ ns.length = 7 ∧ ns[4]? = some (.int .i64 z) ∧ ns.toArray.all (·.oneCell') = true := by
  unfold nodeZ at h
  split at h
  · injection h with h
    subst h
    exact ⟨_, fun σ => rfl, rfl, rfl, by simp [Value.oneCell']⟩
  · cases h
/-- What stands behind file. -/
structure AtF (ρ : Nat → Value) (σ : Sg) (own : Ow) (nx0 : Nat) (w : World) (m1 : Mem XO) (id v c : Nat) (σ1 : Sg) (own1 : Ow) (W : World) : Prop where
  rel : HRel (TX ρ) ρ σ1 own1 m1 W
  st : Stp σ own nx0 w σ1 own1 m1.nx W
  sg : σ1 id = some (v, c)
theorem AtF.keep {ρ : Nat → Value} {σ : Sg} {own : Ow} {nx0 : Nat} {w : World} {m1 : Mem XO} {id v c : Nat} {σ1 : Sg} {own1 : Ow} {W W' : World} {T : Nat → Prop} (h : AtF ρ σ own nx0 w m1 id v c σ1 own1 W) (f : Fr T W W') (hT : ∀ k, T k → own1 k = none ∧ w.heap.size ≤ k) (h0 : 0 < w.heap.size) : AtF ρ σ own nx0 w m1 id v c σ1 own1 W' :=
  ⟨h.rel.keepT f (fun k _ hk => ⟨(hT k hk).1, by have := (hT k hk).2; omega⟩), h.st.keepT f (fun k hk => (hT k hk).2), h.sg⟩
theorem zvIPart (w : World) : (zeroValue 213).run Tryz.prog w = .ok (.agg #[.int .i64 0, .int .i64 0, .int .i64 0]) w := by kernel_rfl
theorem infoIPart : (Tryz.prog.info? 213).map (·.size) = some 3 := by kernel_rfl
def opAl213 : Op → Bool
  | .alloc t => t == 213
  | _ => false
theorem KpE.put {W : World} {l : Nat} {o o' : Obj} {ge c : Nat} (ho : W.heap[l]? = some o) (hc : o.isCells = false) (hb : Blk W ge 3 #[.int .i64 (c : Nat)]) : Blk (W.putObj l o') ge 3 #[.int .i64 (c : Nat)] := by
  have hb' : W.heap[ge]? = _ := hb
  have hne : ge ≠ l := fun e => by
    subst e
    rw [hb'] at ho
    injection ho with ho
    subst ho
    cases hc
  exact (World.putObj_heap_other hne).trans hb'
/-- Between the rounds: before the first, behind it. -/
structure WrI (ρ : Nat → Value) (σ : Sg) (own : Ow) (nx0 : Nat) (w : World) (m1 m5 : Mem XO) (id v c : Nat) (σ1 : Sg) (own1 : Ow) (gv gb gf gs g8 g9 gn : Nat) (bc : BirthV) (sb : ByteArray) (ns : List Value) (B : Nat) (pre : List Unit) (W : World) : Prop where
  bx : Bx W gv gb gf gs g8 g9 v bc sb
  node : Blk W gn 119 ns.toArray
  size : B ≤ W.heap.size
  st0 : pre = [] → AtF ρ σ own nx0 w m1 id v c σ1 own1 W
  st1 : pre ≠ [] → ∃ own5, AtF ρ σ own nx0 w m5 id v c σ1 own5 W ∧ (∀ k r, own5 k = some r → k < B ∨ ∃ o, W.heap[k]? = some o ∧ o.isCells = true) ∧ ∀ k, k < B → own5 k = own1 k
theorem WrI.fr0 {ρ : Nat → Value} {σ : Sg} {own : Ow} {nx0 : Nat} {w : World} {m1 m5 : Mem XO} {id v c : Nat} {σ1 : Sg} {own1 : Ow} {gv gb gf gs g8 g9 gn : Nat} {bc : BirthV} {sb : ByteArray} {ns : List Value} {B : Nat} {pre : List Unit} {W W' : World}
    (h : WrI ρ σ own nx0 w m1 m5 id v c σ1 own1 gv gb gf gs g8 g9 gn bc sb ns B pre W) (f : Fr Nothing W W') (ho : gv < gb ∧ gb < gf ∧ gf < gs ∧ gs < g8 ∧ g8 < g9) (h0 : 0 < w.heap.size) : WrI ρ σ own nx0 w m1 m5 id v c σ1 own1 gv gb gf gs g8 g9 gn bc sb ns B pre W' := by
  refine ⟨h.bx.fr f (fun _ _ _ x => x) ho, h.node.fr f (fun x => x), Nat.le_trans h.size f.size, fun e => (h.st0 e).keep f (fun _ x => x.elim) h0, fun e => ?_⟩
  obtain ⟨own5, q1, q2, q3⟩ := h.st1 e
  refine ⟨own5, q1.keep f (fun _ x => x.elim) h0, fun k r hk => (q2 k r hk).imp (fun x => x) (fun ⟨o, ho, hc⟩ => ⟨o, ?_, hc⟩), q3⟩
  exact (f.block k (Array.getElem?_eq_some_iff.1 ho).1 (fun x => x)).trans ho
theorem WrI.ownFrom {ρ : Nat → Value} {σ : Sg} {own : Ow} {nx0 : Nat} {w : World} {m1 m5 : Mem XO} {id v c : Nat} {σ1 : Sg} {own1 : Ow} {gv gb gf gs g8 g9 gn : Nat} {bc : BirthV} {sb : ByteArray} {ns : List Value} {B : Nat}
    (ho : gv < gb ∧ gb < gf ∧ gf < gs ∧ gs < g8 ∧ g8 < g9) (hg9 : g9 < B) (hgn : gn < B) (hdom : ∀ k r, own1 k = some r → k < B) (h0 : 0 < w.heap.size) (hwB : w.heap.size ≤ B) : OwnFrom B (WrI ρ σ own nx0 w m1 m5 id v c σ1 own1 gv gb gf gs g8 g9 gn bc sb ns B) := by
  intro pre W W' row h hg hr
  have f : Fr (fun k => some k = row) W W' := Fr.grown hg
  have hge : ∀ k, some k = row → B ≤ k := fun k e => (hr k e.symm).1
  have hnc : ∀ k o, some k = row → W.heap[k]? = some o → o.isCells = false := fun k o e ho => by
    obtain ⟨_, o', h1, h2⟩ := hr k e.symm
    rw [h1] at ho
    injection ho with ho
    subst ho
    exact h2
  refine ⟨h.bx.fr f (fun g _ q e => by have := hge g e; omega) ho, h.node.fr f (fun e => by have := hge _ e; omega), Nat.le_trans h.size f.size, fun e => (h.st0 e).keep f (fun k hk => ⟨?_, Nat.le_trans hwB (hge k hk)⟩) h0, fun e => ?_⟩
  · cases hx : own1 k with
    | none => rfl
    | some r => have := hdom k r hx; have := hge k hk; omega
  · obtain ⟨own5, q1, q2, q3⟩ := h.st1 e
    refine ⟨own5, q1.keep f (fun k hk => ⟨?_, Nat.le_trans hwB (hge k hk)⟩) h0, fun k r hk => (q2 k r hk).imp (fun x => x) (fun ⟨o, ho, hc⟩ => ⟨o, ?_, hc⟩), q3⟩
    · cases hx : own5 k with
      | none => rfl
      | some r =>
        rcases q2 k r hx with h1 | ⟨o, h1, h2⟩
        · have := hge k hk; omega
        · have := hnc k o hk h1
          rw [h2] at this
          cases this
    · refine (f.block k (Array.getElem?_eq_some_iff.1 ho).1 (fun e2 => ?_)).trans ho
      have := hnc k o e2 ho
      rw [hc] at this
      cases this
def opAl214 : Op → Bool
  | .alloc t => t == 214
  | _ => false
def opLd23 : Op → Bool
  | .load t _ => t == 23
  | _ => false
theorem bytesN_zero : ∀ n, bytesN n 0 = List.replicate n 0
  | 0 => rfl
  | n + 1 => by
    rw [bytesN, Nat.zero_div, bytesN_zero n, List.replicate_succ']
    rfl
theorem zeros_l (s : Str) : (s.cat ⟨64 - s.len, 0⟩).l = s.l ++ List.replicate (64 - s.len) 0 := by
  rw [Str.cat_l]
  congr 1
  exact bytesN_zero _
theorem cells64 (s : Str) : (Z64L.take 0 ++ Lib.byteCells s.ba.data.toList ++ Z64L.drop (0 + s.ba.size)).toArray = ((s.cat ⟨64 - s.len, 0⟩).l.map bv).toArray := by
  rw [zeros_l, List.take_zero, List.nil_append, List.map_append, Nat.zero_add, Str.ba_size]
  congr 1
  congr 1
  unfold Z64L
  rw [List.drop_replicate, List.map_replicate]
  rfl
theorem valL_empty {ρ : Nat → Value} {n : EName} {bs : VBs} {l : List ECall} {Lb L : List CV} (he : emptyE n bs l = true) (hb : BaseOk ρ bs Lb) (hL : allO (l.map (ECall.cv ρ)) = some L) : (valL (Lb ++ L.reverse) n.nv).size = 0 := by
  unfold valL
  rcases find_spec n hb hL with ⟨_, h2⟩ | ⟨c, x, h1, h2, h3⟩
  · rw [h2]; rfl
  · rw [h3]
    unfold emptyE at he
    rw [h1] at he
    obtain ⟨nm, vv, ab⟩ := c
    cases vv <;> simp only [Bool.false_eq_true] at he
    rename_i e
    obtain ⟨_, q, _⟩ := cv_nm h2
    simp only [EV.conc, Option.some.injEq, Value.string.injEq] at q
    show x.value.size = 0
    rw [← q, Str.ba_size]
    exact Nat.eq_of_beq_eq_true he
theorem wpList_as {P : Program} {ops : Array Oper} {rest : List Oper} {o : Oper} {a : Act} {w : World} {Q : Exit → Act → World → Prop} (hgd : o.guard = none) (x : Operand) (ho : o.op = .assign x) (v : Value) (hv : a.eval x = v) (h : wpList P ops Q rest (a.put o.dst v) w) : wpList P ops Q (o :: rest) a w := by
  refine wpList_plain hgd fun K hK => ?_
  unfold Oper.wp execOp
  simp only [ho, hv, Sem.run_pure]
  exact hK _ _ h
theorem loadVar1 {P : Program} {t : TypeId} {d : TypeDesc} {w : World} {ad : Addr} {v : Value} (hu : P.underlying t = some d) (hd : d.isRow = false) (hc : w.cell? ad = some v) : (loadVar t ad).run P w = .ok v w := by
  have hag : (isAgg t).run P w = .ok false w := by
    unfold isAgg
    rw [Sem.run_bind, run_underlying hu, Result.andThen_ok]
    cases d <;> simp [TypeDesc.isRow] at hd <;> rfl
  simp only [loadVar, Sem.run_bind, hag, Result.andThen_ok, Bool.false_eq_true, if_false, run_load, hc]
theorem results_two {tmps : Array Value} {w : World} {g8 g9 : Nat} {n : Int} (h8 : tmps.getD 8 undef = .pointer (some ⟨g8, 0, none⟩)) (h9 : tmps.getD 9 undef = .pointer (some ⟨g9, 0, none⟩)) (b8 : Blk w g8 3 #[.int .i64 n]) (b9 : Blk w g9 27 #[.int .i64 0]) :
    (results Tryz.f72 tmps).run Tryz.prog w = .ok (.tuple #[.int .i64 n, .int .i64 0]) w := by
  have h8' : tmps[8]?.getD undef = .pointer (some ⟨g8, 0, none⟩) := by simpa using h8
  have h9' : tmps[9]?.getD undef = .pointer (some ⟨g9, 0, none⟩) := by simpa using h9
  have l8 : (loadVar 3 ⟨g8, 0, none⟩).run Tryz.prog w = .ok (.int .i64 n) w := loadVar1 Tryz.underlying3 rfl (b8.cell 0)
  have l9 : (loadVar 27 ⟨g9, 0, none⟩).run Tryz.prog w = .ok (.int .i64 0) w := loadVar1 Tryz.underlying27 rfl (b9.cell 0)
  simp [results, Tryz.results72, h8', h9', asAddr, l8, l9]
def FileP (ρ : Nat → Value) (σ : Sg) (own : Ow) (nx0 : Nat) (w : World) (m1 : Mem XO) (id v c : Nat) (ns : List Value) (W : World) (e : Ending) (W' : World) : Prop :=
  e = .returned (.tuple #[.agg ns.toArray, .int .i64 0]) ∧ W.heap.size ≤ W'.heap.size ∧ ∃ σ1 own1, AtF ρ σ own nx0 w m1 id v c σ1 own1 W' ∧ ∀ g, w.heap.size ≤ g → g < W.heap.size → own1 g = none ∧ W'.heap[g]? = W.heap[g]?
set_option maxRecDepth 100000 in
set_option maxHeartbeats 4000000 in
theorem k_write {ρ : Nat → Value} {R : Caller XO} (hrun : CallOk (TX ρ) Tryz.prog ρ R) {id : Nat} {o s : Str} {k z : Int} {n : List EV} {bs : VBs} {l : List ECall} {m m1 m6 : Mem XO} (hs0 : 0 < s.len) (hs : s.len < 64) (hok : okIn (nmB o k) = true)
    (hfile : R 155 [.ptr id 0, .agg [.str o, .int .i64 k]] m = some (.tup [.agg n, .int .i64 (.ofNat 0)], m1)) (hn : nodeZ n = some z) (hg : m1.h.get id = some (.ext (.view bs l))) (hz : z < s.len) (he : emptyE (nmB o k) bs l = true) (hl : l.length ≤ 1000)
    (hres : R 160 [.ptr id 0, .agg [.str o, .int .i64 k], .agg n, .int .i64 (.ofNat s.len)] (m1.upd id (.ext (.view bs (⟨nmB o k, .str (s.cat ⟨64 - s.len, 0⟩), false⟩ :: l)))) = some (.int .i64 (.ofNat 0), m6)) :
    KOk ρ 72 [.ptr id 0, .agg [.str o, .int .i64 k], .int .i64 (.ofNat 0), .str s] m (.tup [.int .i64 (.ofNat s.len), okE]) m6 := by
  refine ⟨enters_b (by kernel_rfl), fun σ own w vs hc hH => ?_⟩
  obtain ⟨ns, hns, hnl, hn4, hn1⟩ := nodeZ_conc (ρ := ρ) hn
  obtain ⟨v, c, h1⟩ : ∃ v c, σ id = some (v, c) := by
    cases hx : σ id with
    | none => simp only [EV.concs, EV.conc, hx] at hc; cases hc
    | some p => exact ⟨p.1, p.2, rfl⟩
  obtain ⟨us, hu, rfl⟩ := ptr_args hc h1
  have hu' : us = [.agg (BirthV.cells ⟨o.ba, k⟩).toArray, .int .i64 0, .string s.ba] := by
    simp only [EV.concs, EV.conc, Option.some.injEq] at hu
    exact hu.symm
  subst hu'
  obtain ⟨bc, hbc⟩ : ∃ bc : BirthV, bc = ⟨o.ba, k⟩ := ⟨_, rfl⟩
  have CF : Hid (∀ W, Fr Nothing w W → Calls Tryz.prog 155 #[.pointer (some ⟨v, 0, none⟩), .agg bc.cells.toArray] W (FileP ρ σ own m.nx w m1 id v c ns W)) := by
    intro W f
    have hW := hH.keepT f (fun _ _ x => x.elim)
    refine ((hrun _ _ _ _ _ hfile).2 σ own W [.pointer (some ⟨v, 0, none⟩), .agg bc.cells.toArray] (by rw [hbc]; simp only [EV.concs, EV.conc, h1]; rfl) hW).mono ?_
    rintro e W' ⟨u, σ1, own1, rfl, hv, hH1, hst⟩
    rw [EV.conc, concs_mk (show (EV.agg n).conc σ1 ρ = some (.agg ns.toArray) by rw [EV.conc, hns σ1]) (concs_mk (show (EV.int .i64 (.ofNat 0)).conc σ1 ρ = some (.int .i64 0) from rfl) (show EV.concs σ1 ρ [] = some [] from rfl))] at hv
    injection hv with hv
    subst hv
    have hst0 : Stp σ own m.nx w σ own m.nx W := ⟨fun _ _ => rfl, Nat.le_refl _, f.weak, fun _ _ h => h⟩
    refine ⟨rfl, hst.fr.size, σ1, own1, ⟨hH1, hst0.trans hst, by rw [hst.ext id (hH.lt h1)]; exact h1⟩, fun g hg1 hg2 => ?_⟩
    have hog : own g = none := by
      cases ho : own g with
      | none => rfl
      | some r => have := (hH.ow g r ho).1; omega
    exact ⟨hst.old g hg2 hog, hst.fr.block g hg2 (fun ⟨r, hr⟩ => by rw [hog] at hr; cases hr)⟩
  obtain ⟨nz, hzn, hzl⟩ := zvNode w
  have HZL := Lib.hid hzl
  have P0 : Hid (0 < w.heap.size) := UsaT.pos hH.g
  have HRES := Lib.hid hres
  have HH := Lib.hid hH
  have HNS := Lib.hid hns
  have HN4 := Lib.hid hn4
  have HNL : Hid (ns.toArray.size = 7) := by rw [Hid, List.size_toArray]; exact hnl
  have HN1 : Hid (ns.toArray.all (·.oneCell') = true) := hn1
  have HS : Hid (0 < s.len ∧ s.len < 64 ∧ s.ba.size = s.len ∧ z < s.len) := ⟨hs0, hs, Str.ba_size s, hz⟩
  have HOK := Lib.hid hok
  have HE := Lib.hid he
  have HG := Lib.hid hg
  have HL := Lib.hid hl
  have HBC := Lib.hid hbc
  have H1 := Lib.hid h1
  have FIN : Hid (∀ (e : Ending) (w' : World), (∃ u σ' own', e = .returned u ∧ (EV.tup [.int .i64 (.ofNat s.len), okE]).conc σ' ρ = some u ∧ HRel (TX ρ) ρ σ' own' m6 w' ∧ Stp σ own m.nx w σ' own' m6.nx w') → Post (TX ρ) ρ σ own m.nx w (.tup [.int .i64 (.ofNat s.len), okE]) m6 e w') := fun _ _ h => h
  rw [← hbc]
  obtain ⟨sb, hsb⟩ : ∃ sb, sb = s.ba := ⟨_, rfl⟩
  have HSB := Lib.hid hsb
  rw [← hsb] at HS ⊢
  generalize Post (TX ρ) ρ σ own m.nx w (.tup [.int .i64 (.ofNat s.len), okE]) m6 = PP at FIN ⊢
  clear hres hH hns hn4 hnl hn1 hs0 hs hz hok he hg hl hbc h1 hc hu hfile hn hsb
  refine (callsIn_wide (n := 6)).1 (callsIn_of_wp_marks Tryz.func72 rfl trivial (wpIn_wide.2 ?_) rfl)
  simp only [Tryz.ntmps72, List.size_toArray, List.length_cons, List.length_nil, Nat.reduceAdd, Nat.reduceSub, Array.replicate_succ, Array.replicate_zero, List.push_toArray, List.append_toArray, List.nil_append, List.cons_append]
  go_wp2_with (refine wpList_boxBlk rfl 23 (.tmp 0) rfl #[.pointer (some ⟨v, 0, none⟩)] rfl ?_)
  intro w1 n1
  have F1 : Hid (Fr Nothing w w1) := n1.fr
  have Bgv1 := Lib.hid n1.blk
  have Z1 : Hid (w1.heap.size = w.heap.size + 1) := n1.size
  clear n1
  obtain ⟨gv, hgv⟩ : ∃ gv, gv = w.heap.size := ⟨_, rfl⟩
  have Qgv : Hid (gv = w.heap.size + 0) := hgv
  rw [← hgv] at Bgv1 ⊢
  clear hgv
  go_wp2_with (refine wpList_boxBlk rfl 48 (.tmp 1) rfl bc.cells.toArray rfl ?_)
  intro w2 n2
  have F2 : Hid (Fr Nothing w w2) := F1.out.trans n2.fr
  have Bgv2 := Lib.hid (Bgv1.out.fr n2.fr (fun x => x))
  have Bgb2 := Lib.hid n2.blk
  have Z2 : Hid (w2.heap.size = w.heap.size + 2) := by have := Z1.out; have := n2.size; simp only [Hid]; omega
  clear n2 F1 Bgv1
  obtain ⟨gb, hgb⟩ : ∃ gb, gb = w1.heap.size := ⟨_, rfl⟩
  have Qgb : Hid (gb = w.heap.size + 1) := by have := Z1.out; simp only [Hid]; omega
  rw [← hgb] at Bgb2 ⊢
  clear hgb
  go_wp2_with (refine wpList_boxBlk rfl 3 (.tmp 2) rfl #[.int .i64 0] rfl ?_)
  intro w3 n3
  have F3 : Hid (Fr Nothing w w3) := F2.out.trans n3.fr
  have Bgv3 := Lib.hid (Bgv2.out.fr n3.fr (fun x => x))
  have Bgb3 := Lib.hid (Bgb2.out.fr n3.fr (fun x => x))
  have Bgf3 := Lib.hid n3.blk
  have Z3 : Hid (w3.heap.size = w.heap.size + 3) := by have := Z2.out; have := n3.size; simp only [Hid]; omega
  clear n3 F2 Bgv2 Bgb2
  obtain ⟨gf, hgf⟩ : ∃ gf, gf = w2.heap.size := ⟨_, rfl⟩
  have Qgf : Hid (gf = w.heap.size + 2) := by have := Z2.out; simp only [Hid]; omega
  rw [← hgf] at Bgf3 ⊢
  clear hgf
  go_wp2_with (refine wpList_boxBlk rfl 9 (.tmp 3) rfl #[.string sb] rfl ?_)
  intro w4 n4
  have F4 : Hid (Fr Nothing w w4) := F3.out.trans n4.fr
  have Bgv4 := Lib.hid (Bgv3.out.fr n4.fr (fun x => x))
  have Bgb4 := Lib.hid (Bgb3.out.fr n4.fr (fun x => x))
  have Bgf4 := Lib.hid (Bgf3.out.fr n4.fr (fun x => x))
  have Bgs4 := Lib.hid n4.blk
  have Z4 : Hid (w4.heap.size = w.heap.size + 4) := by have := Z3.out; have := n4.size; simp only [Hid]; omega
  clear n4 F3 Bgv3 Bgb3 Bgf3
  obtain ⟨gs, hgs⟩ : ∃ gs, gs = w3.heap.size := ⟨_, rfl⟩
  have Qgs : Hid (gs = w.heap.size + 3) := by have := Z3.out; simp only [Hid]; omega
  rw [← hgs] at Bgs4 ⊢
  clear hgs
  refine wpList_allocBlk rfl 3 rfl (.int .i64 0) zvInt0 #[.int .i64 0] rfl ?_
  intro w5 n5
  have F5 : Hid (Fr Nothing w w5) := F4.out.trans n5.fr
  have Bgv5 := Lib.hid (Bgv4.out.fr n5.fr (fun x => x))
  have Bgb5 := Lib.hid (Bgb4.out.fr n5.fr (fun x => x))
  have Bgf5 := Lib.hid (Bgf4.out.fr n5.fr (fun x => x))
  have Bgs5 := Lib.hid (Bgs4.out.fr n5.fr (fun x => x))
  have Bg85 := Lib.hid n5.blk
  have Z5 : Hid (w5.heap.size = w.heap.size + 5) := by have := Z4.out; have := n5.size; simp only [Hid]; omega
  clear n5 F4 Bgv4 Bgb4 Bgf4 Bgs4
  obtain ⟨g8, hg8⟩ : ∃ g8, g8 = w4.heap.size := ⟨_, rfl⟩
  have Qg8 : Hid (g8 = w.heap.size + 4) := by have := Z4.out; simp only [Hid]; omega
  rw [← hg8] at Bg85 ⊢
  clear hg8
  refine wpList_allocBlk rfl 27 rfl (.int .i64 0) zvErr #[.int .i64 0] rfl ?_
  intro w6 n6
  have F6 : Hid (Fr Nothing w w6) := F5.out.trans n6.fr
  have Bgv6 := Lib.hid (Bgv5.out.fr n6.fr (fun x => x))
  have Bgb6 := Lib.hid (Bgb5.out.fr n6.fr (fun x => x))
  have Bgf6 := Lib.hid (Bgf5.out.fr n6.fr (fun x => x))
  have Bgs6 := Lib.hid (Bgs5.out.fr n6.fr (fun x => x))
  have Bg86 := Lib.hid (Bg85.out.fr n6.fr (fun x => x))
  have Bg96 := Lib.hid n6.blk
  have Z6 : Hid (w6.heap.size = w.heap.size + 6) := by have := Z5.out; have := n6.size; simp only [Hid]; omega
  clear n6 F5 Bgv5 Bgb5 Bgf5 Bgs5 Bg85
  obtain ⟨g9, hg9⟩ : ∃ g9, g9 = w5.heap.size := ⟨_, rfl⟩
  have Qg9 : Hid (g9 = w.heap.size + 5) := by have := Z5.out; simp only [Hid]; omega
  rw [← hg9] at Bg96 ⊢
  clear hg9
  have OR : Hid (gv < gb ∧ gb < gf ∧ gf < gs ∧ gs < g8 ∧ g8 < g9) := by have := Qgv.out; have := Qgb.out; have := Qgf.out; have := Qgs.out; have := Qg8.out; have := Qg9.out; simp only [Hid]; omega
  have BX6 : Hid (Bx w6 gv gb gf gs g8 g9 v bc sb) := ⟨Bgv6.out, Bgb6.out, Bgf6.out, Bgs6.out, Bg86.out, Bg96.out⟩
  have GE : Hid (w.heap.size ≤ gv ∧ g9 < w6.heap.size) := by have := Qgv.out; have := Qg9.out; have := Z6.out; simp only [Hid]; omega
  clear Bgv6 Bgb6 Bgf6 Bgs6 Bg86 Bg96 Qgv Qgb Qgf Qgs Qg8 Qg9 Z1 Z2 Z3 Z4 Z5 Z6
  have cv0 : w6.cell? ⟨gv, 0, none⟩ = some (.pointer (some ⟨v, 0, none⟩)) := BX6.out.v.cell 0
  go_wp2_with (refine wpList_load_add rfl 48 (.tmp 5) rfl ⟨gb, 0, none⟩ rfl bc.cells _ (blk_at BX6.out.b 0 _ (fun j v h => by rw [Nat.zero_add, List.getElem?_toArray]; exact h)) Tryz.underlying48 rfl infoBirth (Held.go ?hk1))
  unfold Held
  go_wp2_with fail
  refine (CF.out w6 F6.out).mono ?_
  rintro e w7 ⟨rfl, hsz7, σ1, own1, hAt, hmine⟩
  have AT7 := Lib.hid hAt
  have MY7 : Hid (∀ g, gv ≤ g → g ≤ g9 → own1 g = none) := fun g q1 q2 => (hmine g (by have := GE.out; omega) (by have := GE.out; omega)).1
  have BX7 : Hid (Bx w7 gv gb gf gs g8 g9 v bc sb) := by
    have hb : ∀ g t cs, gv ≤ g → g ≤ g9 → Blk w6 g t cs → Blk w7 g t cs := fun g t cs q1 q2 h => ((hmine g (by have := GE.out; omega) (by have := GE.out; omega)).2).trans h
    have h := BX6.out
    have q := OR.out
    exact ⟨hb _ _ _ (by omega) (by omega) h.v, hb _ _ _ (by omega) (by omega) h.b, hb _ _ _ (by omega) (by omega) h.f, hb _ _ _ (by omega) (by omega) h.s, hb _ _ _ (by omega) (by omega) h.r8, hb _ _ _ (by omega) (by omega) h.r9⟩
  have GE7 : Hid (w.heap.size ≤ gv ∧ g9 < w7.heap.size) := ⟨GE.out.1, by have := GE.out.2; omega⟩
  clear hAt hmine hsz7 cv0 BX6 F6 GE
  go_wp2_with (refine wpList_allocBlk rfl 119 rfl (.agg nz) hzn nz rfl ?_)
  intro w8 n8
  have BX8 := Lib.hid (BX7.out.fr n8.fr (fun _ _ _ x => x) OR.out)
  have AT8 := Lib.hid (AT7.out.keep n8.fr (fun _ x => x.elim) P0.out)
  have N8 := Lib.hid n8.blk
  have GE8 : Hid (w.heap.size ≤ gv ∧ g9 < w7.heap.size ∧ w.heap.size ≤ w7.heap.size ∧ own1 w7.heap.size = none) := ⟨GE7.out.1, GE7.out.2, by have := GE7.out; have := OR.out; omega, by
    cases ho : own1 w7.heap.size with
    | none => rfl
    | some r => have := (AT7.out.rel.ow _ _ ho).1; omega⟩
  clear n8 BX7 AT7 GE7
  obtain ⟨gn, hgn⟩ : ∃ gn, gn = w7.heap.size := ⟨_, rfl⟩
  rw [← hgn] at N8 GE8 ⊢
  clear hgn
  have IN : Hid ((Tryz.prog.info? 119).map (·.size) = some ns.toArray.size) := by rw [Hid, HNL.out]; exact infoNode
  go_wp2_with (refine wpList_storeBlk rfl 119 (.tmp 10) _ rfl gn ns.toArray rfl rfl _ _ N8.out IN.out (by rw [HZL.out, HNL.out]) HN1.out ?_)
  intro w9 b9 f9
  have N9 := Lib.hid b9
  have BX9 := Lib.hid (BX8.out.fr f9 (fun g _ q2 e => by have e' : g = gn := e; have := GE8.out.2.1; omega) OR.out)
  have AT9 := Lib.hid (AT8.out.keep f9 (fun g e => by have e' : g = gn := e; rw [e']; exact ⟨GE8.out.2.2.2, GE8.out.2.2.1⟩) P0.out)
  clear b9 f9 BX8 AT8 N8
  have cf0 : w9.cell? ⟨gf, 0, none⟩ = some (.int .i64 0) := BX9.out.f.cell 0
  have cs0 : w9.cell? ⟨gs, 0, none⟩ = some (.string sb) := BX9.out.s.cell 0
  go_wp2_with fail
  refine (iwithin_any w9).mono ?_
  rintro e w9' ⟨rfl, rfl⟩
  have m1e : min (sb.size : Int) 4096 = (sb.size : Int) := by have := HS.out; omega
  have wr0 : IntKind.i64.wrap (sb.size : Int) = (sb.size : Int) := IntWalk.i64_in _ (by have := HS.out; omega)
  go_wp2_with fail
  refine (iparts_any sb.size w9).mono ?_
  rintro e w10 ⟨ga, ge, rfl, f10, ba10, be10, hga10, hge10⟩
  have BA := Lib.hid ba10
  have BE := Lib.hid be10
  have BX10 := Lib.hid (BX9.out.fr f10 (fun _ _ _ x => x) OR.out)
  have AT10 := Lib.hid (AT9.out.keep f10 (fun _ x => x.elim) P0.out)
  have N10 := Lib.hid (N9.out.fr f10 (fun x => x))
  have GE10 : Hid (gn < w9.heap.size ∧ w9.heap.size ≤ ga ∧ w9.heap.size ≤ ge ∧ ga < w10.heap.size ∧ ge < w10.heap.size) := ⟨N9.out.lt, hga10, hge10, ba10.lt, be10.lt⟩
  have DOM9 : Hid (∀ k r, own1 k = some r → k < w9.heap.size) := fun k r h => (AT9.out.rel.ow k r h).1
  clear f10 ba10 be10 hga10 hge10 BX9 AT9 N9 cf0 cs0 m1e wr0
  go_wp2_with fail
  have DOM : Hid (∀ k r, own1 k = some r → k < w10.heap.size) := fun k r h => (AT10.out.rel.ow k r h).1
  have LTB : Hid (g9 < w10.heap.size ∧ gn < w10.heap.size ∧ ge < w10.heap.size) := ⟨by have := GE8.out; have := N10.out.lt; omega, N10.out.lt, BE.out.lt⟩
  have H0 : Hid (WrI ρ σ own m.nx w m1 (m1.upd id (.ext (.view bs (⟨nmB o k, .str (s.cat ⟨64 - s.len, 0⟩), false⟩ :: l)))) id v c σ1 own1 gv gb gf gs g8 g9 gn bc sb ns w10.heap.size [] w10) := ⟨BX10.out, N10.out, Nat.le_refl _, fun _ => AT10.out, fun h => absurd rfl h⟩
  refine (wpIn_wide (n := 6)).1 ?_
  refine wpIn_rangeFunc_ownH rfl (by omega) (gf := 247) (lb := #[.pointer (some ⟨ga, 0, none⟩), .pointer (some ⟨ge, 0, none⟩)]) rfl trivial (enters_b (by kernel_rfl))
    (parts_one 5 ga ge sb.size w10 (by have := HS.out; omega) (by have := HS.out; omega) BA.out BE.out) (fun h k q => k (h q)) (fun W l o o' _ ho hc _ hb => KpE.put ho hc hb) (Below.refl _ _) (fun _ => rfl)
    (WrI ρ σ own m.nx w m1 (m1.upd id (.ext (.view bs (⟨nmB o k, .str (s.cat ⟨64 - s.len, 0⟩), false⟩ :: l)))) id v c σ1 own1 gv gb gf gs g8 g9 gn bc sb ns w10.heap.size) (fun _ _ _ => False) (WrI.ownFrom OR.out LTB.out.1 LTB.out.2.1 DOM.out P0.out (by have := AT10.out.st.fr.size; exact this)) (fun _ _ _ _ _ h _ _ => h.elim) H0.out
    (fun _ a' W => ∃ g, a' = ({ tmps := #[.pointer (some ⟨v, 0, none⟩), .agg bc.cells.toArray, .int .i64 0, .string sb, .pointer (some ⟨gv, 0, none⟩), .pointer (some ⟨gb, 0, none⟩), .pointer (some ⟨gf, 0, none⟩), .pointer (some ⟨gs, 0, none⟩), .pointer (some ⟨g8, 0, none⟩), .pointer (some ⟨g9, 0, none⟩), .pointer (some ⟨gn, 0, none⟩), .int .i64 0, .int .i64 sb.size, .pointer (some ⟨g, 0, none⟩), undef, undef, undef, .tuple #[.agg ns.toArray, .int .i64 0], .pointer (some ⟨v, 0, none⟩), .agg bc.cells.toArray, .tuple #[.agg ns.toArray, .int .i64 0], .agg ns.toArray, .int .i64 0, .bool false, .int .i64 0, .bool false, undef, .bool false, .int .i64 0, .bool true, .bool false, .bool false, .int .i64 0, .bool false, .bool false, undef, undef, .bool false, .string sb, .int .i64 sb.size, .int .i64 0, .int .i64 4096, .int .i64 sb.size, .int .i64 0, .int .i64 0, .int .i64 sb.size, .int .i64 sb.size, .func (.func 247) #[] #[.pointer (some ⟨ga, 0, none⟩), .pointer (some ⟨ge, 0, none⟩)], partV sb.size, undef, undef, undef, undef, undef, undef, undef, undef, undef, undef, undef, undef, undef, undef, undef, undef, undef, undef, undef, undef, undef, undef, undef, undef, undef, undef, undef, undef, undef, undef, undef, undef, undef, undef, undef, undef, undef, undef, undef, undef, undef, undef, undef, undef, undef, undef, undef, undef, undef, undef, undef, undef, undef, undef, undef, undef, undef, undef, undef, undef, undef, undef], defers := [] } : Act) ∧ Blk W g 213 #[.int .i64 0, .int .i64 0, .int .i64 sb.size] ∧ w10.heap.size ≤ g)
    (fun x a' _ A B row h hg hr => by
      obtain ⟨g, e, hb, hB⟩ := h
      refine ⟨g, e, hb.fr (Fr.grown hg) (fun e2 => ?_), hB⟩
      obtain ⟨_, o, ho, hc⟩ := hr g e2.symm
      have hb' : A.heap[g]? = _ := hb
      rw [hb'] at ho
      injection ho with ho
      subst ho
      cases hc)
    ?assign ?body ?done ?stop
  case assign =>
    intro l' pre x W K hI hK
    have HK := Lib.hid hK
    have HI := Lib.hid hI
    clear hK hI
    gi_wp2_with (refine wpListIn_round1 opAl213 rfl (by kernel_rfl) ?_)
    go_wp2_with (refine wpList_allocBlk rfl 213 rfl (.agg #[.int .i64 0, .int .i64 0, .int .i64 0]) zvIPart #[.int .i64 0, .int .i64 0, .int .i64 0] rfl ?_)
    intro wa na
    have FA := Lib.hid na.fr
    have BP := Lib.hid na.blk
    have Z1 : Hid (w10.heap.size ≤ W.heap.size) := HI.out.size
    clear na
    obtain ⟨g, hgW⟩ : ∃ g, g = W.heap.size := ⟨_, rfl⟩
    have GW : Hid (g = W.heap.size) := hgW
    rw [← hgW] at BP Z1 ⊢
    clear hgW
    go_wp2_with (refine wpList_storeBlk rfl 213 (.tmp 13) _ rfl g #[.int .i64 0, .int .i64 0, .int .i64 sb.size] rfl rfl _ _ BP.out infoIPart rfl (by simp [Value.oneCell']) ?_)
    intro wb bb fb
    have FB : Fr Nothing W wb := FA.out.then_ fb (fun i hi e => by have e' : i = g := e; have := GW.out; omega)
    refine ⟨?_, rfl⟩
    refine HK.out _ _ ⟨FB.size, fun k o _ ho _ => (FB.block k (Array.getElem?_eq_some_iff.1 ho).1 (fun x => x)).trans ho⟩ (fun hb => hb.fr FB (fun x => x)) (HI.out.fr0 FB OR.out P0.out) ⟨g, rfl, bb, Z1.out⟩
  case body =>
    rintro l' pre x a' W hl hlr hI ⟨g, rfl, hbx, hgB⟩ hlt
    obtain rfl : pre = [] := List.length_eq_zero_iff.1 (by omega)
    have hAt := hI.st0 rfl
    obtain ⟨v', c', e1, ov, Lb, L, s0, hbs, hL, ⟨s1, mr, ml, cv, rl, ll, hD⟩, hB, hkk, hss⟩ := hAt.rel.obj id _ HG.out
    rw [hAt.sg] at e1
    injection e1 with e1
    injection e1 with e1 e2
    subst e1 e2
    obtain rfl := vbase_inj hB (view_base hD)
    have AT := Lib.hid hAt
    have HD := Lib.hid hD
    have OV : Hid (own1 v = some id ∧ own1 mr = some id ∧ own1 ml = some id ∧ own1 s0 = some id ∧ ∀ k, VB W v k → own1 k = some id) := ⟨ov, hkk mr (.inr ⟨_, hD.blk, .inl rfl⟩), hkk ml (.inr ⟨_, hD.blk, .inr (.inr rfl)⟩), hss, hkk⟩
    have HBS := Lib.hid hbs
    have HLC := Lib.hid hL
    have HEV : Hid ((valL (Lb ++ L.reverse) (nBirth 8 bc)).size = 0) := by rw [HBC.out]; exact valL_empty HE.out hbs hL
    have HLEN : Hid ((Lb ++ L.reverse).length ≤ 1048576) := by
      have := base_len hbs
      have := allO_length hL
      have := HL.out
      simp only [Hid]
      rw [List.length_append, List.length_reverse]
      omega
    have OKN : Hid (okNm (nBirth 8 bc) = true ∧ bc.maker.size ≤ 1099511627776) := by
      obtain ⟨q1, q2, _⟩ := okIn_spec HOK.out
      rw [HBC.out]
      exact ⟨q1, q2⟩
    have BXW := Lib.hid hI.bx
    have NOW := Lib.hid hI.node
    have SZW := Lib.hid hI.size
    have BPW := Lib.hid hbx
    have HGB := Lib.hid hgB
    have q0 : W.cell? ⟨g, 0, none⟩ = some (.int .i64 0) := hbx.cell 0
    clear hI hAt ov hbs hL hD hB hkk hss hbx hgB hlt hlr hl
    gi_wp2_with (refine wpListIn_round1 opAl214 rfl (by kernel_rfl) ?_)
    go_wp2_with (refine wpList_allocBlk rfl 214 rfl (.agg Z64L.toArray) zvA64 Z64L.toArray rfl ?_)
    intro wa na
    have FA := Lib.hid na.fr
    have YA := Lib.hid na.blk
    have ZA : Hid (w10.heap.size ≤ W.heap.size ∧ g < W.heap.size ∧ wa.heap.size = W.heap.size + 1) := ⟨SZW.out, BPW.out.lt, na.size⟩
    clear na
    obtain ⟨gy, hgy⟩ : ∃ gy, gy = W.heap.size := ⟨_, rfl⟩
    have GY : Hid (gy = W.heap.size) := hgy
    rw [← hgy] at YA ⊢
    clear hgy
    have BPA := Lib.hid (BPW.out.fr FA.out (fun x => x))
    have BXA := Lib.hid (BXW.out.fr FA.out (fun _ _ _ x => x) OR.out)
    have p0 : wa.cell? ⟨g, 0, none⟩ = some (.int .i64 0) := BPA.out.cell 0
    have p1 : wa.cell? ⟨g, 1, none⟩ = some (.int .i64 0) := BPA.out.cell 1
    have p2 : wa.cell? ⟨g, 2, none⟩ = some (.int .i64 sb.size) := BPA.out.cell 2
    have wr0 : IntKind.i64.wrap (sb.size : Int) = (sb.size : Int) := IntWalk.i64_in _ (by have := HS.out; omega)
    have lt64 : decide ((sb.size : Int) < 64) = true := decide_eq_true (by have := HS.out; omega)
    have lt64' : (sb.size : Int) < 64 := by have := HS.out; omega
    have lt64'' : sb.size < 64 := by have := HS.out; omega
    have pv : wa.cell? ⟨gv, 0, none⟩ = some (.pointer (some ⟨v, 0, none⟩)) := BXA.out.v.cell 0
    clear q0
    refine ⟨?_, rfl⟩
    gi_wp2_with (refine wpListIn_round1 opLd23 rfl (by kernel_rfl) ?_)
    have LOC : Hid (∀ k, k < wa.heap.size → own1 k = none → Loc wa v k) := fun k hk ho => by
      refine ⟨hk, fun hvb => ?_, s0, (VStep.of_fr0 HD.out.blk.lt FA.out).base s0 (view_base HD.out), fun e => by rw [e, OV.out.2.2.2.1] at ho; cases ho⟩
      have e := FA.out.block v HD.out.blk.lt (fun x => x)
      have h2 := OV.out.2.2.2.2 k (vb_same e hvb)
      rw [h2] at ho
      cases ho
    have OGY : Hid (own1 gy = none ∧ own1 gn = none ∧ own1 ge = none ∧ ∀ q, gv ≤ q → q ≤ g9 → own1 q = none) := ⟨by
      cases ho : own1 gy with
      | none => rfl
      | some r => have := DOM.out _ _ ho; have := GY.out; have := ZA.out; omega, GE8.out.2.2.2, by
      cases ho : own1 ge with
      | none => rfl
      | some r => have := DOM9.out _ _ ho; have := GE10.out; omega, MY7.out⟩
    have HU : Hid (UsaT wa) := UsaT.fr0 AT.out.rel.g FA.out
    have NOA := Lib.hid (NOW.out.fr FA.out (fun x => x))
    go_wp2_with (refine wpList_load_add rfl 48 (.tmp 5) rfl ⟨gb, 0, none⟩ rfl bc.cells _ (blk_at BXA.out.b 0 _ (fun j v h => by rw [Nat.zero_add, List.getElem?_toArray]; exact h)) Tryz.underlying48 rfl infoBirth (Held.go ?hkb1))
    unfold Held
    go_wp2_with fail
    refine (block_any bc v s0 mr ml cv rl ll (Lb ++ L.reverse) wa (HD.out.fr0 FA.out) HU.out OKN.out.1 HLEN.out OKN.out.2 HEV.out).mono ?_
    rintro e wb ⟨rfl, ⟨rl2, hD2⟩, hS2⟩
    have SZA : Hid (∀ q, gv ≤ q → q ≤ g9 → q < wa.heap.size) := fun q _ q2 => by have := LTB.out.1; have := ZA.out; omega
    have S2 := Lib.hid hS2
    have BXB := Lib.hid (BXA.out.fr hS2.fr (fun q q1 q2 => (LOC.out q (SZA.out q q1 q2) (OGY.out.2.2.2 q q1 q2)).far) OR.out)
    have NOB := Lib.hid (NOA.out.fr hS2.fr (LOC.out gn NOA.out.lt OGY.out.2.1).far)
    have YB := Lib.hid (YA.out.fr hS2.fr (LOC.out gy YA.out.lt OGY.out.1).far)
    have OG : Hid (own1 g = none) := by
      cases ho : own1 g with
      | none => rfl
      | some r => have := DOM.out _ _ ho; have := HGB.out; omega
    have BPB := Lib.hid (BPA.out.fr hS2.fr (LOC.out g BPA.out.lt OG.out).far)
    have LYB := Lib.hid ((LOC.out gy YA.out.lt OGY.out.1).step hS2)
    have SSB : Hid (VSt (fun k => W.heap.size ≤ k) v W wb) := ((VStep.of_fr0 HD.out.blk.lt FA.out).trans hS2).st
    have NB0 : Hid (own1 0 = none) := (AT.out.rel.tab 0 rfl).2
    have HUB : Hid (UsaT wb) := HU.out.keep hS2.fr (LOC.out 0 (UsaT.pos HU.out) NB0.out).far
    have VCB : Hid (ViewC wb v (Lb ++ L.reverse)) := ⟨_, _, _, _, _, _, hD2⟩
    have HDB := Lib.hid hD2
    clear hD2 hS2 p0 p1 p2 pv
    go_wp2_with (refine wpList_storeBlk rfl 214 (.tmp 14) _ rfl gy Z64L.toArray rfl rfl _ _ YB.out infoA64 rfl Z64_one ?_)
    intro wc bc2 fc
    have YC := Lib.hid bc2
    have HDC := Lib.hid (HDB.out.keepT fc (fun q hq => by have e' : q = gy := hq; rw [e']; exact LYB.out))
    have GYN : Hid ((∀ q, gv ≤ q → q ≤ g9 → q ≠ gy) ∧ gn ≠ gy ∧ g ≠ gy ∧ w10.heap.size ≤ gy) := ⟨fun q _ q2 e => by have := LTB.out.1; have := GY.out; have := ZA.out; omega, by have := LTB.out.2.1; have := GY.out; have := ZA.out; omega, by have := GY.out; have := ZA.out; omega, by have := GY.out; have := ZA.out; omega⟩
    have BXC := Lib.hid (BXB.out.fr fc (fun q q1 q2 => GYN.out.1 q q1 q2) OR.out)
    have NOC := Lib.hid (NOB.out.fr fc GYN.out.2.1)
    have BPC := Lib.hid (BPB.out.fr fc GYN.out.2.2.1)
    have SSC : Hid (VSt (fun k => W.heap.size ≤ k) v W wc) := SSB.out.store VCB.out fc LYB.out (Nat.le_of_eq GY.out.symm)
    have LYC := Lib.hid (LYB.out.store VCB.out fc LYB.out)
    have HUC : Hid (UsaT wc) := HUB.out.keep fc (fun e => by have e' : 0 = gy := e; have := GY.out; have := P0.out; have := AT.out.st.fr.size; omega)
    clear SSB HUB VCB LYB S2
    clear bc2 fc YB HDB BXB NOB BPB YA BXA NOA BPA
    refine ⟨?_, rfl⟩
    gi_wp2_with fail
    refine wpIn_round_mid 15 (by kernel_rfl) (by kernel_rfl) (by kernel_rfl) ?_
    intro wd fd
    have HDD := Lib.hid (HDC.out.fr0 fd)
    have YD := Lib.hid (YC.out.fr fd (fun x => x))
    have BXD := Lib.hid (BXC.out.fr fd (fun _ _ _ x => x) OR.out)
    have NOD := Lib.hid (NOC.out.fr fd (fun x => x))
    have BPD := Lib.hid (BPC.out.fr fd (fun x => x))
    have SSD : Hid (VSt (fun k => W.heap.size ≤ k) v W wd) := SSC.out.trans (VStep.of_fr0 HDC.out.blk.lt fd).st
    have LYD := Lib.hid (LYC.out.step (VStep.of_fr0 HDC.out.blk.lt fd))
    have HUD : Hid (UsaT wd) := HUC.out.fr0 fd
    have VCD : Hid (ViewC wd v (Lb ++ L.reverse)) := ⟨_, _, _, _, _, _, HDD.out⟩
    clear fd HDC YC BXC NOC BPC SSC LYC HUC
    have p0 : wd.cell? ⟨g, 0, none⟩ = some (.int .i64 0) := BPD.out.cell 0
    have p1 : wd.cell? ⟨g, 1, none⟩ = some (.int .i64 0) := BPD.out.cell 1
    have p2 : wd.cell? ⟨g, 2, none⟩ = some (.int .i64 sb.size) := BPD.out.cell 2
    have pf : wd.cell? ⟨gf, 0, none⟩ = some (.int .i64 0) := BXD.out.f.cell 0
    have ps : wd.cell? ⟨gs, 0, none⟩ = some (.string sb) := BXD.out.s.cell 0
    have z0 : (0 : Int) ≤ (sb.size : Int) := by omega
    have z1 : (sb.size : Int) ≤ 64 := by omega
    have z2 : sb.size ≤ 64 := by omega
    simp only [List.take_succ_cons, List.take_zero, List.drop_succ_cons, List.drop_zero]
    have wz : IntKind.i64.wrap 0 = 0 := rfl
    have ex : sb.extract 0 sb.size = sb := by
      apply ByteArray.ext
      rw [ByteArray.data_extract]
      exact Array.extract_size
    repeat still_step
    refine wpStill_nil ?_
    have hcp : (Builtin.copy_ #[22, 9] 3 #[.slice (some ⟨gy, 0, none⟩) sb.size 64, .string sb]).run Tryz.prog wd = .ok (goInt sb.size) (wd.setRow gy (Z64L.toArray.toList.take 0 ++ Lib.byteCells sb.data.toList ++ Z64L.toArray.toList.drop (0 + sb.size)).toArray) :=
      Lib.run_copy_row_string wd _ _ _ 5 gy 0 _ _ _ Z64L.toArray _ Tryz.underlying22 (by kernel_rfl) YD.out (Nat.le_refl _) (by rw [List.size_toArray, Z64_len]; omega)
    refine wpList_copyR rfl (.tmp 67) (.tmp 77) 22 9 rfl (.slice (some ⟨gy, 0, none⟩) sb.size 64) (.string sb) rfl (by first | rfl | (rw [ex]; rfl)) hcp ?_
    obtain ⟨CC, hCC⟩ : ∃ CC, CC = (Z64L.toArray.toList.take 0 ++ Lib.byteCells sb.data.toList ++ Z64L.toArray.toList.drop (0 + sb.size)).toArray := ⟨_, rfl⟩
    have HCC : Hid (CC = ((s.cat ⟨64 - s.len, 0⟩).l.map bv).toArray) := by rw [Hid, hCC, HSB.out]; exact cells64 s
    rw [← hCC]
    have YE : Hid (Blk (wd.setRow gy CC) gy 214 CC) := heap_setRow_same YD.out
    have fe : Fr (fun q => q = gy) wd (wd.setRow gy CC) := (Fr.refl (fun q => q = gy) wd).setRow (fun _ => rfl) CC
    obtain ⟨we, hwe⟩ : ∃ we, we = wd.setRow gy CC := ⟨_, rfl⟩
    rw [← hwe] at YE fe ⊢
    clear hwe hCC hcp p0 p1 p2 pf ps wz ex z0 z1 z2
    have HDE := Lib.hid (HDD.out.keepT fe (fun q hq => by have e' : q = gy := hq; rw [e']; exact LYD.out))
    have SSE : Hid (VSt (fun k => W.heap.size ≤ k) v W we) := SSD.out.store VCD.out fe LYD.out (Nat.le_of_eq GY.out.symm)
    have HUE : Hid (UsaT we) := HUD.out.keep fe (fun e => by have e' : 0 = gy := e; have := GY.out; have := P0.out; have := AT.out.st.fr.size; omega)
    have BXE := Lib.hid (BXD.out.fr fe (fun q q1 q2 => GYN.out.1 q q1 q2) OR.out)
    have NOE := Lib.hid (NOD.out.fr fe GYN.out.2.1)
    have BPE := Lib.hid (BPD.out.fr fe GYN.out.2.2.1)
    clear fe HDD YD BXD NOD BPD SSD LYD HUD VCD
    go_wp2_with fail
    refine wpStill_nil ?_
    gi_wp2_with fail
    have X64 : Hid ((s.cat ⟨64 - s.len, 0⟩).l.length = 64) := by
      have := HS.out
      simp only [Hid]
      rw [Str.l_length]
      show s.len + (64 - s.len) = 64
      omega
    have CO : Hid (∀ w, Calls Tryz.prog 159 #[.agg bc.cells.toArray, .int .i64 0] w (Same' w (.agg (nBirth 8 bc).cells.toArray))) := fun w => OfBlock_any bc w
    refine wpIn_round_kl 7 Nothing (fun _ => false) (fun _ _ => false) [iS (.pointer (some ⟨v, 0, none⟩)), iS (.agg bc.cells.toArray), iS (.pointer (some ⟨g, 0, none⟩)), iS (.int .i64 0), iS (.agg (nBirth 8 bc).cells.toArray), iS (.slice (some ⟨gy, 0, none⟩) 64 64), iS (.string (s.cat ⟨64 - s.len, 0⟩).ba)] (by kernel_rfl) ?hr15 ?_
    case hr15 =>
      refine ⟨?y0, ?y1, ?y2, ?y3, ?y4, ?y5, ?y6, trivial⟩
      all_goals intro u w' hf hR hq
      all_goals simp only [z1, z2, z3, z4, puts, Act.put, z5, z6, z7, Nat.reduceAdd, Nat.zero_add]
      case y0 =>
        refine goS ?_
        have q : w'.cell? ⟨gv, 0, none⟩ = some (.pointer (some ⟨v, 0, none⟩)) := (BXE.out.v.fr hf (fun x => x)).cell 0
        go_simp
        exact ⟨_, rfl, Fr.refl _ _, rfl⟩
      case y1 =>
        refine goS ?_
        exact wp_load_add _ _ rfl ⟨gb, 0, none⟩ rfl bc.cells _ (blk_at (BXE.out.b.fr hf (fun x => x)) 0 _ (fun j v h => by rw [Nat.zero_add, List.getElem?_toArray]; exact h)) Tryz.underlying48 rfl infoBirth ⟨_, rfl, Fr.refl _ _, rfl⟩
      case y2 =>
        refine goS ?_
        go_simp
        exact ⟨_, rfl, Fr.refl _ _, rfl⟩
      case y3 =>
        simp only [show u 2 = _ from hR 2]
        refine goS ?_
        have q : w'.cell? ⟨g, 0, none⟩ = some (.int .i64 0) := (BPE.out.fr hf (fun x => x)).cell 0
        go_simp
        exact ⟨_, rfl, Fr.refl _ _, rfl⟩
      case y4 =>
        simp only [show u 1 = _ from hR 1, show u 3 = _ from hR 3]
        refine goS ?_
        go_simp
        refine (CO.out w').mono ?_
        rintro e w4 ⟨rfl, f4⟩
        exact ⟨_, rfl, f4, rfl⟩
      case y5 =>
        refine goS ?_
        go_simp
        exact ⟨_, rfl, Fr.refl _ _, rfl⟩
      case y6 =>
        simp only [show u 5 = _ from hR 5]
        refine goS ?_
        have hcv : (convert 22 9 (.slice (some ⟨gy, 0, none⟩) 64 64)).run Tryz.prog w' = .ok (.string (s.cat ⟨64 - s.len, 0⟩).ba) w' :=
          run_strT w' (fun q => q = gy) _ 64 64 (s.cat ⟨64 - s.len, 0⟩).l ⟨by rw [List.length_map, X64.out], fun _ => ⟨_, rfl, rfl, fun j x hx => by
            have q := (YE.out.fr hf (fun x => x)).cell j
            rw [HCC.out, List.getElem?_toArray] at q
            rw [show (⟨gy, 0, none⟩ : Addr).add j = ⟨gy, j, none⟩ by unfold Addr.add; split <;> simp_all, q]
            exact hx⟩⟩
        go_simp
        exact ⟨_, rfl, Fr.refl _ _, rfl⟩
    intro u w' hf hR
    simp only [z1, z2, z3, z4, puts, Act.put, z5, z6, z7, z8, z9, Nat.reduceAdd, Nat.zero_add, show u 0 = _ from hR 0 (by omega), show u 4 = _ from hR 4 (by omega), show u 6 = _ from hR 6 (by omega)]
    clear hR
    have HDF := Lib.hid (HDE.out.fr0 hf)
    have SSF : Hid (VSt (fun k => W.heap.size ≤ k) v W w') := SSE.out.trans (VStep.of_fr0 HDE.out.blk.lt hf).st
    have HUF : Hid (UsaT w') := HUE.out.fr0 hf
    have BXF := Lib.hid (BXE.out.fr hf (fun _ _ _ x => x) OR.out)
    have NOF := Lib.hid (NOE.out.fr hf (fun x => x))
    clear hf HDE SSE HUE BXE NOE BPE YE
    have NVB : Hid (∀ q, q < W.heap.size → own1 q = none → ¬ VB w' v q) := fun q hq ho hvb => by
      rcases SSF.out.lies q hvb with h | h
      · rw [OV.out.2.2.2.2 q h] at ho; cases ho
      · omega
    have LTW : Hid (∀ q, gv ≤ q → q ≤ g9 → q < W.heap.size) := fun q _ q2 => by have := LTB.out.1; have := SZW.out; omega
    go_wp2_with fail
    rename_i hK
    refine (SetD_any (nBirth 8 bc) (s.cat ⟨64 - s.len, 0⟩).ba v s0 mr ml cv rl2 ll (Lb ++ L.reverse) w' HDF.out HUF.out OKN.out.1 (by rw [Str.ba_size]; show s.len + (64 - s.len) ≤ 65536; have := HS.out; omega) HLEN.out OKN.out.2 (show (0 : Nat) ≤ _ from Nat.zero_le _)).mono ?_
    rintro e wg ⟨rfl, ⟨cv3, ll3, hD3⟩, hS3⟩
    have SSG : Hid (VStep v W wg) := (SSF.out.trans hS3.st).new
    have BXG := Lib.hid (BXF.out.fr hS3.fr (fun q q1 q2 => NVB.out q (LTW.out q q1 q2) (OGY.out.2.2.2 q q1 q2)) OR.out)
    have NOG := Lib.hid (NOF.out.fr hS3.fr (NVB.out gn (by have := LTB.out.2.1; have := SZW.out; omega) OGY.out.2.1))
    have FW : Hid (Fr (fun q => own1 q = some id) W wg) := SSG.out.fr.mono fun q _ h => OV.out.2.2.2.2 q h
    have WI : Hid (WrI ρ σ own m.nx w m1 (m1.upd id (.ext (.view bs (⟨nmB o k, .str (s.cat ⟨64 - s.len, 0⟩), false⟩ :: l)))) id v c σ1 own1 gv gb gf gs g8 g9 gn bc sb ns w10.heap.size [()] wg) := by
      obtain ⟨own5, r1, r2, r3⟩ := HRel.viewT (T := fun _ => False) (l := l) (L' := ⟨nBirth 8 bc, (s.cat ⟨64 - s.len, 0⟩).ba, false⟩ :: L) (l' := ⟨nmB o k, .str (s.cat ⟨64 - s.len, 0⟩), false⟩ :: l) AT.out.rel AT.out.sg DOM.out (by rw [List.reverse_cons, ← List.append_assoc]; exact hD3) OV.out.1 OV.out.2.1 OV.out.2.2.1 OV.out.2.2.2.1
        (fun q hq => by
          rcases SSG.out.lies q (.inr ⟨_, hD3.blk, .inr (.inl ⟨_, rfl, hq⟩)⟩) with h | h
          · exact .inl (OV.out.2.2.2.2 q h)
          · exact .inr h)
        (FW.out.mono fun q _ h => .inl h) (fun _ _ h => h.elim) HBS.out (by
          have e1 : ECall.cv ρ ⟨nmB o k, .str (s.cat ⟨64 - s.len, 0⟩), false⟩ = some ⟨nBirth 8 bc, (s.cat ⟨64 - s.len, 0⟩).ba, false⟩ := by rw [HBC.out]; rfl
          simp only [List.map_cons, e1, allO, HLC.out])
      refine ⟨BXG.out, NOG.out, Nat.le_trans SZW.out SSG.out.fr.size, (fun h => by cases h), fun _ => ⟨own5, ⟨r1, AT.out.st.viewT (T := fun _ => False) (FW.out.mono fun q _ h => .inl h) (fun _ h => False.elim h) r2, AT.out.sg⟩, r3, fun q hq => r2 q (Nat.lt_of_lt_of_le hq SZW.out)⟩⟩
    have KF : Hid (KeepsFrom w10.heap.size W wg) := ⟨SSG.out.fr.size, fun q ob hq ho _ => (FW.out.block q (Array.getElem?_eq_some_iff.1 ho).1 (fun e => by have := DOM.out q id e; omega)).trans ho⟩
    have KE : Hid (KpE ge sb.size W wg) := fun hb => hb.fr FW.out (fun e => by rw [OGY.out.2.2.1] at e; cases e)
    clear hD3 hS3
    refine hK _ _ ?_
    refine wpList_as rfl (.tmp 86) rfl _ rfl ?_
    refine ⟨?_, rfl⟩
    gi_wp2
    exact ⟨KF.out, KE.out, WI.out⟩
  case done =>
    rintro D xs W hD rfl hI hDef
    obtain ⟨own5, hA5, hcell5, hlow5⟩ := hI.st1 (by simp)
    have BXD := Lib.hid hI.bx
    have NOD := Lib.hid hI.node
    have A5 := Lib.hid hA5
    have SZD : Hid (w10.heap.size ≤ W.heap.size) := hI.size
    have KD := Lib.hid hDef
    have HDB := Lib.hid hD
    have OD : Hid (own5 D = none ∧ D < W.heap.size) := by
      refine ⟨?_, (Array.getElem?_eq_some_iff.1 hDef).1⟩
      cases ho : own5 D with
      | none => rfl
      | some r =>
        exfalso
        rcases hcell5 D r ho with h | ⟨o', h, hc'⟩
        · omega
        · rw [hDef] at h
          injection h with h
          subst h
          cases hc'
    have O5 : Hid (∀ q, gv ≤ q → q ≤ g9 → own5 q = none) := fun q q1 q2 => by rw [hlow5 q (by have := LTB.out.1; omega)]; exact MY7.out q q1 q2
    have pf : W.cell? ⟨gf, 0, none⟩ = some (.int .i64 0) := hI.bx.f.cell 0
    have pv : W.cell? ⟨gv, 0, none⟩ = some (.pointer (some ⟨v, 0, none⟩)) := hI.bx.v.cell 0
    have pn : W.cell? ⟨gn, 4, none⟩ = some (.int .i64 z) := by rw [hI.node.cell 4, List.getElem?_toArray]; exact HN4.out
    clear hI hA5 hcell5 hlow5 hDef hD
    have t1 : decide ((0 : Int) < (sb.size : Int)) = true := decide_eq_true (by have := HS.out; omega)
    have t1' : (0 : Int) < (sb.size : Int) := by have := HS.out; omega
    have t1'' : 0 < sb.size := by have := HS.out; omega
    have t2 : decide (z < (sb.size : Int)) = true := decide_eq_true (by have := HS.out; omega)
    have t2' : z < (sb.size : Int) := by have := HS.out; omega
    have wr0 : IntKind.i64.wrap (sb.size : Int) = (sb.size : Int) := IntWalk.i64_in _ (by have := HS.out; omega)
    have HCR : Hid (Calls Tryz.prog 160 #[.pointer (some ⟨v, 0, none⟩), .agg bc.cells.toArray, .agg ns.toArray, .int .i64 (sb.size : Nat)] W (Post (TX ρ) ρ σ1 own5 (m1.upd id (.ext (.view bs (⟨nmB o k, .str (s.cat ⟨64 - s.len, 0⟩), false⟩ :: l)))).nx W (.int .i64 (.ofNat 0)) m6)) := by
      refine (hrun _ _ _ _ _ HRES.out).2 σ1 own5 W [.pointer (some ⟨v, 0, none⟩), .agg bc.cells.toArray, .agg ns.toArray, .int .i64 (sb.size : Nat)] ?_ A5.out.rel
      have e1 : (EV.ptr id 0).conc σ1 ρ = some (.pointer (some ⟨v, 0, none⟩)) := by simp only [EV.conc, A5.out.sg]
      have e2 : (EV.agg [.str o, .int .i64 k]).conc σ1 ρ = some (.agg bc.cells.toArray) := by rw [HBC.out]; rfl
      have e3 : (EV.agg n).conc σ1 ρ = some (.agg ns.toArray) := by rw [EV.conc, HNS.out σ1]
      have e4 : (EV.int .i64 (.ofNat s.len)).conc σ1 ρ = some (.int .i64 (sb.size : Nat)) := by rw [HS.out.2.2.1]; rfl
      exact concs_mk e1 (concs_mk e2 (concs_mk e3 (concs_mk e4 rfl)))
    go_wp2_with (first
      | (refine wpList_load_add rfl 48 (.tmp 5) rfl ⟨gb, 0, none⟩ rfl bc.cells _ (blk_at BXD.out.b 0 _ (fun j v h => by rw [Nat.zero_add, List.getElem?_toArray]; exact h)) Tryz.underlying48 rfl infoBirth ?_)
      | (refine wpList_load_add rfl 119 (.tmp 10) rfl ⟨gn, 0, none⟩ rfl ns _ (blk_at NOD.out 0 _ (fun j v h => by rw [Nat.zero_add, List.getElem?_toArray]; exact h)) Tryz.underlying119 rfl (by have h := IN.out; rw [List.size_toArray] at h; exact h) ?_))
    refine HCR.out.mono ?_
    rintro e W7 ⟨u, σ6, own6, rfl, hu6, hH6, hst6⟩
    have hu6' : some (Value.int .i64 0) = some u := hu6
    injection hu6' with hu6'
    subst hu6'
    have H6 := Lib.hid hH6
    have S6 := Lib.hid hst6
    have BX7 := Lib.hid (BXD.out.fr hst6.fr (fun q q1 q2 ⟨r, hr⟩ => by rw [O5.out q q1 q2] at hr; cases hr) OR.out)
    have KD7 : Hid (W7.heap[D]? = some (.deferred (some []))) := (hst6.fr.block D OD.out.2 (fun ⟨r, hr⟩ => by rw [OD.out.1] at hr; cases hr)).trans KD.out
    have O6 : Hid (own6 D = none ∧ own6 g8 = none ∧ own6 g9 = none) := ⟨hst6.old D OD.out.2 OD.out.1, hst6.old g8 (by have := LTB.out; have := OR.out; have := SZD.out; omega) (O5.out g8 (by have := OR.out; omega) (by have := OR.out; omega)), hst6.old g9 (by have := LTB.out; have := OR.out; have := SZD.out; omega) (O5.out g9 (by have := OR.out; omega) (by omega))⟩
    clear hH6 hst6 hu6 HCR pf pv pn BXD NOD t1 t1' t1'' t2 t2' wr0
    go_wp2_with (refine wpList_storeFld rfl 3 (.tmp 8) _ rfl g8 0 (.int .i64 (sb.size : Nat)) rfl rfl rfl (by kernel_rfl) _ _ #[.int .i64 (sb.size : Nat)] BX7.out.r8 (show 0 < 1 by decide) rfl ?_)
    intro W8 b8 f8
    have R8 := Lib.hid b8
    have R9 := Lib.hid (BX7.out.r9.fr f8 (fun e => by have e' : g9 = g8 := e; have := OR.out; omega))
    have F8 := Lib.hid f8
    have KD8 : Hid (W8.heap[D]? = some (.deferred (some []))) := (f8.block D (Array.getElem?_eq_some_iff.1 KD7.out).1 (fun e => by have e' : D = g8 := e; have := LTB.out; have := OR.out; have := HDB.out; omega)).trans KD7.out
    clear b8 f8
    refine wpList_storeFld rfl 27 (.tmp 9) _ rfl g9 0 (.int .i64 0) rfl rfl rfl (by kernel_rfl) _ _ #[.int .i64 0] R9.out (show 0 < 1 by decide) rfl ?_
    intro W9 b9' f9'
    have R99 := Lib.hid b9'
    have R89 := Lib.hid (R8.out.fr f9' (fun e => by have e' : g8 = g9 := e; have := OR.out; omega))
    have F9 := Lib.hid f9'
    have KD9 : Hid (W9.heap[D]? = some (.deferred (some []))) := (f9'.block D (Array.getElem?_eq_some_iff.1 KD8.out).1 (fun e => by have e' : D = g9 := e; have := LTB.out; have := HDB.out; omega)).trans KD8.out
    clear b9' f9'
    go_wp2
    refine ⟨by simp, .inl ⟨_, _, rfl, run_takeDeferred KD9.out, ?_⟩⟩
    have FZ : Fr (fun q => some q = some D) W9 (W9.putObj D (.deferred none)) := Fr.grown (grownBy_putObj' W9 D _)
    have hD8 : ¬ (some g8 = some D) := fun e => by injection e with e; have := LTB.out; have := OR.out; have := HDB.out; omega
    have hD9 : ¬ (some g9 = some D) := fun e => by injection e with e; have := LTB.out; have := HDB.out; omega
    refine ⟨_, results_two (g8 := g8) (g9 := g9) rfl rfl (R89.out.fr FZ hD8) (R99.out.fr FZ hD9), FIN.out _ _ ⟨_, σ6, own6, rfl, ?_, ?_, ?_⟩⟩
    · rw [HS.out.2.2.1]; rfl
    · refine ((H6.out.keepT F8.out (fun q _ e => ?_)).keepT F9.out (fun q _ e => ?_)).keepT FZ (fun q _ e => ?_)
      · have e' : q = g8 := e
        rw [e']
        exact ⟨O6.out.2.1, by have := OR.out; omega⟩
      · have e' : q = g9 := e
        rw [e']
        exact ⟨O6.out.2.2, by have := OR.out; omega⟩
      · injection e with e'
        rw [e']
        exact ⟨O6.out.1, by have := HDB.out; have := LTB.out; omega⟩
    · have hwB : w.heap.size ≤ gv := GE8.out.1
      refine (((A5.out.st.trans S6.out).keepT F8.out (fun q e => ?_)).keepT F9.out (fun q e => ?_)).keepT FZ (fun q e => ?_)
      · have e' : q = g8 := e
        have := OR.out
        omega
      · have e' : q = g9 := e
        have := OR.out
        omega
      · injection e with e'
        have := HDB.out
        have := LTB.out
        have := OR.out
        omega
  case stop =>
    rintro D cd pre W hD _ h
    exact h.elim
end Ev
end Go.Proofs.YtmpokappjogehaaGreatDoor
