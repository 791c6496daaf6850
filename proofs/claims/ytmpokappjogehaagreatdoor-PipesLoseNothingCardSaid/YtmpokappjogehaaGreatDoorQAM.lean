/- Steps of the proof of LawPipesLoseNothing: contracts of the functions that the law reaches, for every world that holds what each of them asks. -/
import Derived.Test.YtmpokappjogehaaGreatDoorQAL
set_option linter.unusedVariables false
set_option linter.unusedSimpArgs false
namespace Go.Proofs.YtmpokappjogehaaGreatDoor
open Go.RowKit Go.Shelf

attribute [local go_sem] Oper.semAt_some

/-- Between two rounds: a row of the call's own, in a box. -/
structure RowP {α : Type} (w0 w3 : World) (g2 : Nat) (bt e : TypeId) (sz : Nat) (cnt : List α → Nat) (cells : List α → List Value) (pre : List α) (W : World) : Prop where
  fr : Fr Nothing w0 W
  kn : KP w3 W
  row : ∃ v, Blk W g2 bt #[v] ∧ W.ownsRow 0 e sz v (cnt pre) (cells pre) ∧ ∀ k, v.ownBlock = some k → w0.heap.size ≤ k ∧ k ≠ g2
theorem RowP.ownFrom {α : Type} {w0 w3 : World} {g2 : Nat} {bt e : TypeId} {sz B : Nat} {cnt : List α → Nat} {cells : List α → List Value} (h2 : g2 < B) (hB : w0.heap.size ≤ B) : OwnFrom B (RowP w0 w3 g2 bt e sz cnt cells) := by
  intro pre X Y row h hg hr
  have hrow : ∀ k, k < B → some k ≠ row := fun k hk e => by have := (hr k e.symm).1; omega
  have hf : Fr (fun k => some k = row) X Y := Fr.grown hg
  obtain ⟨v, b11, hown, hl⟩ := h.row
  refine ⟨h.fr.then_ hf (fun i hi e => absurd e (hrow i (by omega))), h.kn.trans (KP.fr hf (fun g t cs _ hb e => ?_)), ⟨v, b11.fr hf (fun e => hrow _ h2 e), own_fr hown hf (fun k hk e => ?_), hl⟩⟩
  · obtain ⟨_, o, ho, hc⟩ := hr g e.symm
    unfold Blk at hb
    rw [hb] at ho
    cases ho
    simp [Obj.isCells] at hc
  · obtain ⟨_, o, ho, hc⟩ := hr k e.symm
    obtain ⟨c, f, ho'⟩ := own_block hown hk
    rw [ho'] at ho
    cases ho
    simp [Obj.isCells] at hc
theorem RowP.same {α : Type} {w0 w3 W X : World} {g2 : Nat} {bt e : TypeId} {sz : Nat} {cnt : List α → Nat} {cells : List α → List Value} {pre pre' : List α} (h : RowP w0 w3 g2 bt e sz cnt cells pre W) (hX : Fr Nothing W X) (h1 : cnt pre' = cnt pre) (h2 : cells pre' = cells pre) : RowP w0 w3 g2 bt e sz cnt cells pre' X := by
  obtain ⟨v, b11, hown, hl⟩ := h.row
  refine ⟨h.fr.trans hX, h.kn.trans (KP.fr hX (fun _ _ _ _ _ x => x)), ⟨v, b11.fr hX (fun x => x), ?_, hl⟩⟩
  rw [h1, h2]
  exact own_fr hown hX (fun _ _ x => x)
theorem RowP.step {α : Type} {w0 w3 W X X2 X3 : World} {g2 B : Nat} {bt e : TypeId} {sz : Nat} {cnt : List α → Nat} {cells : List α → List Value} {pre pre' : List α} {v v2 : Value}
    (hI : RowP w0 w3 g2 bt e sz cnt cells pre W) (_h2 : g2 < B) (_hB : w0.heap.size ≤ B) (hg2 : w0.heap.size ≤ g2) (hbt : bt ≠ 9 ∧ bt ≠ 311) (he : e ≠ 9 ∧ e ≠ 311) (hb : Blk W g2 bt #[v])
    (hown : W.ownsRow 0 e sz v (cnt pre) (cells pre)) (hlies : ∀ k, v.ownBlock = some k → w0.heap.size ≤ k ∧ k ≠ g2)
    (hX : Fr Nothing W X) (hG : Grew e sz X v X2 v2 (cnt pre') (cells pre')) (f3 : Fr (fun k => k = g2) X2 X3) (b3 : Blk X3 g2 bt #[v2]) :
    KeepsFrom B W X3 ∧ KP W X3 ∧ RowP w0 w3 g2 bt e sz cnt cells pre' X3 := by
  have s1 : w0.heap.size ≤ W.heap.size := hI.fr.size
  have s2 : W.heap.size ≤ X.heap.size := hX.size
  have s3 : g2 < W.heap.size := hb.lt
  have hl2 : ∀ k, v2.ownBlock = some k → w0.heap.size ≤ k ∧ k ≠ g2 := fun k hk => by
    rcases hG.lies k hk with h | h
    · exact hlies k h
    · constructor <;> omega
  have F : Fr (fun k => k = g2 ∨ v.ownBlock = some k) W X3 := by
    have A1 : Fr (fun k => k = g2 ∨ v.ownBlock = some k) W X2 := (hX.weak).trans (hG.fr.mono (fun i _ h => .inr h))
    exact A1.trans (f3.mono (fun i _ h => .inl h))
  have K : KP W X3 := KP.fr F (fun g t cs ht hn h => by
    unfold Blk at hn hb
    rcases h with rfl | h
    · rw [hb] at hn
      cases hn
      exact ht.elim hbt.1 hbt.2
    · obtain ⟨c, f, ho⟩ := own_block hown h
      rw [ho] at hn
      cases hn
      exact ht.elim he.1 he.2)
  refine ⟨⟨F.size, fun k o _ ho hc => ?_⟩, K, ?_, hI.kn.trans K, ?_⟩
  · refine (F.block k (Array.getElem?_eq_some_iff.1 ho).1 ?_).trans ho
    rintro (rfl | h)
    · omega
    · obtain ⟨c, f, ho'⟩ := own_block hown h
      rw [ho] at ho'
      cases ho'
      simp [Obj.isCells] at hc
  · refine hI.fr.then_ F (fun i hi h => ?_)
    rcases h with h | h
    · omega
    · have := (hlies i h).1
      omega
  · exact ⟨v2, b3, own_fr hG.own f3 (fun k hk e => (hl2 k hk).2 e), hl2⟩

theorem zvInts (w : World) : (zeroValue 44).run Tryz.prog w = .ok (.slice none 0 0) w := by kernel_rfl
theorem infoInts : (Tryz.prog.info? 44).map (·.size) = some 1 := by kernel_rfl
theorem infoIntP : (Tryz.prog.info? 3).map (fun i => (i.zero, i.size, i.bytes)) = some (some (.int .i64 0), 1, 8) := by kernel_rfl
theorem results_ords (tmps : Array Value) (w : World) (g2 : Nat) (v : Value) (h2 : tmps.getD 2 undef = .pointer (some ⟨g2, 0, none⟩)) (b2 : Blk w g2 44 #[v]) :
    (results Tryz.f303 tmps).run Tryz.prog w = .ok v w := by
  have h2' : tmps[2]?.getD undef = .pointer (some ⟨g2, 0, none⟩) := by simpa using h2
  simp [results, Tryz.results303, h2', asAddr, run_loadVar_one w g2 _ _ _ b2 infoInts (Tryz.isAgg44 w)]
def ordI (p : Part) : Value := .int .i64 (p.ord : Int)
def ordsW (ys : List Part) : List Value := ys.map ordI
structure OrdI (w0 w3 : World) (g2 g3 : Nat) (pre : List Part) (W : World) : Prop where
  row : RowP w0 w3 g3 44 3 1 List.length ordsW pre W
  res : ∃ v, Blk W g2 44 #[v]
  lies : ∀ v, Blk W g3 44 #[v] → v.ownBlock ≠ some g2

theorem OrdI.later {w0 w3 A B : World} {g2 g3 : Nat} {pre : List Part} (h : OrdI w0 w3 g2 g3 pre A) (f : Fr Nothing A B) (h3 : g3 < A.heap.size) : OrdI w0 w3 g2 g3 pre B :=
  ⟨h.row.same f rfl rfl, by obtain ⟨v, hv⟩ := h.res; exact ⟨v, hv.fr f (fun x => x)⟩, fun v hb => h.lies v (by
    have e := f.block g3 h3 (fun x => x)
    unfold Blk at hb ⊢
    rw [← e]
    exact hb)⟩
theorem OrdI.ownFrom {w0 w3 : World} {g2 g3 N : Nat} (h3 : g3 < N) (hN : w0.heap.size ≤ N) : OwnFrom N (OrdI w0 w3 g2 g3) := by
  intro pre A B row h hg hr
  obtain ⟨hf, _, hb⟩ := grown_hf hg hr
  refine ⟨RowP.ownFrom h3 hN pre A B row h.row hg hr, by obtain ⟨v, hv⟩ := h.res; exact ⟨v, hb _ _ _ hv⟩, fun v hv => h.lies v ?_⟩
  obtain ⟨v', hv', _⟩ := h.row.row
  have e := hb _ _ _ hv'
  unfold Blk at hv e hv' ⊢
  rw [e] at hv
  cases hv
  exact hv'
def opLd174 : Op → Bool
  | .load t _ => t == 44
  | _ => false
def opSt174 : Op → Bool
  | .store t _ _ => t == 44
  | _ => false
def Ordd (w : World) (s : ByteArray) (r : Ending) (w' : World) : Prop := ∃ v, r = .returned v ∧ Grew 3 1 w (.slice none 0 0) w' v (ordsO s).length ((ordsO s).map (Value.int .i64))
set_option maxRecDepth 100000 in
set_option maxHeartbeats 4000000 in
theorem Ordinals_any (s : ByteArray) (w : World) (hs : s.size ≤ 1099511627776) (hv : validO s = true) : Calls Tryz.prog 303 #[.string s] w (Ordd w s) := by
  obtain ⟨i0, hi0, hz0', hz1, hz2⟩ := info_parts infoIntP
  have HS := Lib.hid hs
  have HV := Lib.hid hv
  clear hs hv
  refine (callsIn_wide (n := 6)).1 (callsIn_of_wp_marks Tryz.func303 rfl trivial (wpIn_wide.2 ?_) rfl)
  simp only [Tryz.ntmps303, List.size_toArray, List.length_cons, List.length_nil, Nat.reduceAdd, Nat.reduceSub, Array.replicate_succ, Array.replicate_zero, List.push_toArray, List.append_toArray, List.nil_append, List.cons_append]
  go_wp2_with (refine wpList_allocBlk rfl 44 rfl (.slice none 0 0) zvInts #[.slice none 0 0] rfl ?_)
  intro wa na
  have FA := Lib.hid na.fr
  have B2 := Lib.hid na.blk
  have Z2 : Sz w w.heap.size := Nat.le_refl _
  clear na
  generalize w.heap.size = g2 at *
  go_wp2_with (refine wpList_allocBlk rfl 44 rfl (.slice none 0 0) zvInts #[.slice none 0 0] rfl ?_)
  intro w2 nb
  have FB := Lib.hid (FA.out.trans nb.fr)
  have B2b := Lib.hid (B2.out.fr nb.fr (fun x => x))
  have B3 := Lib.hid nb.blk
  have Z3 : Sz w wa.heap.size := FA.out.size
  have N23 : Hid (g2 < wa.heap.size) := B2.out.lt
  clear nb B2 FA
  generalize wa.heap.size = g3 at *
  have E2 : Hid (OrdI w w2 g2 g3 [] w2) := ⟨⟨FB.out, KP.refl _, _, B3.out, ⟨rfl, .inl ⟨rfl, rfl⟩⟩, fun k hk => by simp [Value.ownBlock] at hk⟩, ⟨_, B2b.out⟩, fun v hb => by
    have h := B3.out
    unfold Blk at h hb
    rw [h] at hb
    cases hb
    simp [Value.ownBlock]⟩
  have L3 : Hid (g3 < w2.heap.size) := B3.out.lt
  clear B3 B2b FB
  go_wp2_with fail
  refine (parts_any s _).mono ?_
  rintro r w3 ⟨rfl, f3, b3⟩
  have E3 : Hid (OrdI w w2 g2 g3 [] w3) := E2.out.later f3 L3.out
  have G3 := Lib.hid b3
  have F23 : Hid (w2.heap.size ≤ w3.heap.size) := f3.size
  clear f3 b3 E2
  generalize w2.heap.size = gs at *
  go_wp2_with fail
  refine (wpIn_wide (n := 6)).1 ?_
  refine wpIn_rangeFunc_ownH rfl (by omega) (gf := 305) (lb := #[.pointer (some ⟨gs, 0, none⟩)]) rfl trivial (enters_of Tryz.func305 (by kernel_rfl) rfl)
    (parts_stops 5 gs s w3 HS.out G3.out) (fun h k => h.trans k) (fun W l o o' _ ho hc _ => KP.put W l o o' ho hc) (Below.refl _ _) (fun _ => rfl)
    (OrdI w w2 g2 g3) (fun _ pre _ => ∃ x ∈ pre, x.e ≠ 0) (OrdI.ownFrom (Nat.lt_of_lt_of_le L3.out F23.out) E3.out.row.fr.size) (fun _ _ _ _ _ h _ _ => h) E3.out
    (fun x a' W => ∃ g, a' = ({ tmps := #[.string s, undef, .pointer (some ⟨g2, 0, none⟩), .pointer (some ⟨g3, 0, none⟩), .pointer (some ⟨g, 0, none⟩), .string s, .func (.func 305) #[] #[.pointer (some ⟨gs, 0, none⟩)], .agg #[.int .i64 x.ord, .int .i64 x.at_, .int .i64 x.e], undef, undef, undef, undef, undef, undef, undef, undef, undef], defers := [] } : Act) ∧ Blk W g 311 (partC x))
    (fun x a' _ A B row h hg hr => by
      obtain ⟨g, e, hb⟩ := h
      exact ⟨g, e, (grown_hf hg hr).2.2 _ _ _ hb⟩)
    ?assign ?body ?done ?stop
  case assign =>
    intro l pre x W K hI hK
    have HK := Lib.hid hK
    have HI := Lib.hid hI
    clear hK hI
    gi_wp2_with (refine wpListIn_round1 opAlloc rfl (by kernel_rfl) ?_)
    go_wp2_with (refine wpList_allocBlk rfl 311 rfl (.agg partZ) zvPart partZ rfl ?_)
    intro wa na
    have FA := Lib.hid na.fr
    have BA := Lib.hid na.blk
    have Z1 : Sz W W.heap.size := Nat.le_refl _
    clear na
    generalize W.heap.size = g at *
    go_wp2_with (refine wpList_storeBlk rfl 311 (.tmp 4) _ rfl g (partC x) rfl rfl _ _ BA.out infoPart rfl (part_one x) ?_)
    intro wb bb fb
    have FB : Fr Nothing W wb := FA.out.then_ fb (fun i hi e => by have e' : i = g := e; have := Z1; unfold Sz at this; omega)
    refine ⟨?_, rfl⟩
    refine HK.out _ _ ⟨FB.size, fun k o _ ho _ => (FB.block k (Array.getElem?_eq_some_iff.1 ho).1 (fun x => x)).trans ho⟩ (KP.fr FB (fun _ _ _ _ _ x => x)) (HI.out.later FB (by obtain ⟨v, hb, _, _⟩ := HI.out.row.row; exact hb.lt)) ⟨g, rfl, bb⟩
  case body =>
    rintro l' pre x a' W hl hlr hI ⟨g, rfl, hbx⟩ hlt
    have HI := Lib.hid hI
    have BX := Lib.hid hbx
    have q0 : W.cell? ⟨g, 0, none⟩ = some (.int .i64 x.ord) := hbx.cell 0
    have q2 : W.cell? ⟨g, 2, none⟩ = some (.int .i64 x.e) := hbx.cell 2
    obtain ⟨v2, h2⟩ := hI.res
    obtain ⟨v, b3, hrow, hlies⟩ := hI.row.row
    obtain ⟨A1, m1, c1, rfl, H1, H2⟩ := own_slice hrow
    have NL := Lib.hid (hI.lies _ b3)
    have HROW := Lib.hid hrow
    have HLI := Lib.hid hlies
    have B2 := Lib.hid h2
    have B3 := Lib.hid b3
    have c3 : W.cell? ⟨g3, 0, none⟩ = some (.slice A1 m1 c1) := b3.cell 0
    have HLT : Hid (pre.length < 9) := Nat.lt_of_lt_of_le hlt (partsL_le s)
    clear hI hbx hlt hl hlr h2 b3 hrow hlies
    by_cases hz : x.e = 0
    · have tz2 : ((x.e : Int) == 0) = true := by rw [beq_iff_eq]; omega
      gi_wp2_with (refine wpListIn_round1 opLd174 rfl (by kernel_rfl) ?_)
      go_wp2_with (at_builtin; refine wpList_app1 _ rfl _ _ 44 rfl 3 i0 (.int .i64 0) 1 8 Tryz.underlying44 hi0 hz0' hz1 hz2 rfl (by omega) _ _ _ rfl HROW.out 1 _ _ rfl rfl rfl ?e1 ?e2 (by omega) ?_)
      case e1 => simp [Value.oneCell']
      case e2 => have := HLT.out; omega
      intro v2' y2 hG
      have KG := Lib.hid hG
      clear hG
      have B3y : Hid (Blk y2 g3 44 #[.slice A1 m1 c1]) := B3.out.fr KG.out.fr (fun e => (HLI.out _ e).2 rfl)
      obtain ⟨A2, m2, c2, rfl, _, _⟩ := own_slice KG.out.own
      go_wp2_with (refine wpList_store1 rfl 44 (.tmp 3) _ rfl g3 (.slice A2 m2 c2) rfl rfl rfl _ _ B3y.out infoInts ?_)
      intro y3 b3' f3
      refine ⟨?_, rfl⟩
      have KG' : Grew 3 1 W (.slice A1 m1 c1) y2 (.slice A2 m2 c2) ((pre ++ [x]).length) (ordsW (pre ++ [x])) := by
        have h := KG.out
        rw [List.length_append, ordsW, List.map_append]
        exact h
      have KEY := RowP.step (v := .slice A1 m1 c1) (v2 := .slice A2 m2 c2) HI.out.row L3.out (Nat.le_trans Z3 (Nat.le_of_lt L3.out)) Z3 (by decide) (by decide) B3.out HROW.out HLI.out (Fr.refl _ _) KG' f3 b3'
      have B2z : Blk y3 g2 44 #[v2] := (B2.out.fr KG.out.fr NL.out).fr f3 (fun e => by have e' : g2 = g3 := e; have := N23.out; omega)
      have KF : KeepsFrom w3.heap.size W y3 := ⟨KEY.1.size, fun q o hq ho hc => KEY.1.same q o (Nat.le_trans F23.out hq) ho hc⟩
      refine ⟨KF, KEY.2.1, ⟨KEY.2.2, ⟨_, B2z⟩, fun v hv e => ?_⟩⟩
      unfold Blk at hv b3'
      rw [b3'] at hv
      cases hv
      rcases KG.out.lies _ e with h | h
      · exact NL.out h
      · have := B2.out.lt
        omega
    · have tz2 : ((x.e : Int) == 0) = false := by rw [beq_eq_false_iff_ne]; omega
      have HZ := Lib.hid hz
      gi_wp2_with (refine wpListIn_round1 opSt174 rfl (by kernel_rfl) ?_)
      go_wp2_with (refine wpList_store1 rfl 44 (.tmp 2) _ rfl g2 (.slice none 0 0) rfl rfl rfl _ _ B2.out infoInts ?_)
      intro wq bq fq
      refine ⟨?_, rfl⟩
      gi_wp2
      refine ⟨⟨fq.size, fun q o hB ho hc => (fq.block q (Array.getElem?_eq_some_iff.1 ho).1 (fun hq => ?_)).trans ho⟩, x, by simp, HZ.out⟩
      have e : q = g2 := hq
      subst e
      have hb := B2.out
      unfold Blk at hb
      rw [hb] at ho
      cases ho
      simp [Obj.isCells] at hc
  case done =>
    rintro D xs W hD rfl hI hK
    obtain ⟨v2, h2⟩ := hI.res
    obtain ⟨v, b3, hrow, hlies⟩ := hI.row.row
    obtain ⟨A1, m1, c1, rfl, H1, H2⟩ := own_slice hrow
    have KD := Lib.hid hK
    have HD := Lib.hid hD
    have HI := Lib.hid hI
    have NL := Lib.hid (hI.lies _ b3)
    have HROW := Lib.hid hrow
    have HLI := Lib.hid hlies
    have B2 := Lib.hid h2
    have c3 : W.cell? ⟨g3, 0, none⟩ = some (.slice A1 m1 c1) := b3.cell 0
    clear hI hD hK h2 b3 hrow hlies
    go_wp2_with (refine wpList_store1 rfl 44 (.tmp 2) _ rfl g2 (.slice A1 m1 c1) rfl rfl rfl _ _ B2.out infoInts ?_)
    intro wq bq fq
    have KB := Lib.hid bq
    have KF := Lib.hid fq
    have KD2 : Hid (wq.heap[D]? = some (.deferred (some []))) := by
      refine (KF.out.block D (Array.getElem?_eq_some_iff.1 KD.out).1 (fun hq => ?_)).trans KD.out
      have hd := KD.out
      have e : D = g2 := hq
      subst e
      have hn := B2.out
      unfold Blk at hn
      rw [hd] at hn
      cases hn
    clear bq fq c3
    go_wp2
    refine ⟨by simp, .inl ⟨_, _, rfl, run_takeDeferred KD2.out, ?_⟩⟩
    have PF : Fr (fun k => some k = some D) wq (wq.putObj D (.deferred none)) := Fr.grown (grownBy_putObj' wq D _)
    have nB : ∀ g, (∃ c t f, wq.heap[g]? = some (.cells c t f)) → ¬ (some g = some D) := fun g ⟨c, t, f, hb⟩ e => by
      have e' : g = D := by simpa using e
      subst e'
      rw [KD2.out] at hb
      cases hb
    refine ⟨_, results_ords _ _ g2 _ rfl (KB.out.fr PF (nB g2 ⟨_, _, _, KB.out⟩)), ⟨_, rfl, ⟨?_, ?_, fun k hk => .inr (HLI.out k hk).1⟩⟩⟩
    · have h1 := own_fr HROW.out KF.out (fun k hk e => by have e' : k = g2 := e; subst e'; exact NL.out hk)
      have h2 := own_fr h1 PF (fun k hk e => by
        obtain ⟨c, f, ho⟩ := own_block h1 hk
        exact nB k ⟨_, _, _, ho⟩ e)
      rw [ordsO, List.length_map, List.map_map]
      exact h2
    · refine ((HI.out.row.fr.then_ KF.out (fun i hi e => ?_)).then_ PF (fun i hi e => ?_)).weak
      · have e' : i = g2 := e
        have h2 := Z2
        unfold Sz at h2
        omega
      · have e' : i = D := by simpa using e
        have := HD.out
        have := E3.out.row.fr.size
        omega
  case stop =>
    rintro D cd pre W hD hpre ⟨x, hx, hz⟩ hK
    have h := HV.out
    rw [validO, List.all_eq_true] at h
    have := h x (hpre.subset hx)
    simp only [beq_iff_eq] at this
    exact absurd this hz
end Go.Proofs.YtmpokappjogehaaGreatDoor

namespace Go.Proofs.YtmpokappjogehaaGreatDoor
open Go.RowKit Go.Shelf

theorem cmpI_eq (a b : Int) : cmpI a b = cmpZ a b := rfl
set_option maxRecDepth 100000 in
theorem cmpStr_any (a b : ByteArray) (w : World) : Calls Tryz.prog 328 #[.string a, .string b] w (SameW w (.int .i64 (cmpB a b))) := by
  have C1 := Lib.hid (fun a w => isNaN_str a w)
  have HC := Lib.hid (cmpB_less a b)
  have key : ∀ r, cmpB a b = r → Calls Tryz.prog 328 #[.string a, .string b] w (SameW w (.int .i64 r)) → Calls Tryz.prog 328 #[.string a, .string b] w (SameW w (.int .i64 (cmpB a b))) := fun r h k => by rw [h]; exact k
  by_cases h1 : Op.bytesLess a.toList b.toList = true
  · refine key (-1) (by rw [HC.out, if_pos h1]) ?_
    clear key HC
    go_enter Tryz.func328, Tryz.ntmps328
    go_wp2_with fail
    refine (C1.out a _).mono ?_
    rintro e w' ⟨rfl, rfl⟩
    go_wp2_with fail
    refine (C1.out b _).mono ?_
    rintro e w' ⟨rfl, rfl⟩
    go_wp2
    go_ret
    exact ⟨rfl, rfl⟩
  · have h2 : Op.bytesLess a.toList b.toList = false := by simpa using h1
    by_cases e : a = b
    · subst e
      refine key 0 (by rw [HC.out, if_neg h1, if_pos rfl]) ?_
      clear key HC
      have h3 : (a.toList == a.toList) = true := by simp
      go_enter Tryz.func328, Tryz.ntmps328
      go_wp2_with fail
      refine (C1.out a _).mono ?_
      rintro e w' ⟨rfl, rfl⟩
      go_wp2_with fail
      refine (C1.out a _).mono ?_
      rintro e w' ⟨rfl, rfl⟩
      go_wp2
      go_ret
      exact ⟨rfl, rfl⟩
    · refine key 1 (by rw [HC.out, if_neg h1, if_neg e]) ?_
      have h3 : (a.toList == b.toList) = false := by rw [beq_eq_false_iff_ne]; exact fun h => e (toList_inj h)
      clear key HC e
      go_enter Tryz.func328, Tryz.ntmps328
      go_wp2_with fail
      refine (C1.out a _).mono ?_
      rintro e w' ⟨rfl, rfl⟩
      go_wp2_with fail
      refine (C1.out b _).mono ?_
      rintro e w' ⟨rfl, rfl⟩
      go_wp2
      go_ret
      exact ⟨rfl, rfl⟩
theorem isNaN_nm (a : ByteArray) (w : World) : Calls Tryz.prog 351 #[.string a] w (SameW w (.bool false)) := by
  go_enter Tryz.func351, Tryz.ntmps351
  go_wp2
  go_ret
  exact ⟨rfl, rfl⟩
set_option maxRecDepth 100000 in
theorem cmpNm_any (a b : ByteArray) (w : World) : Calls Tryz.prog 341 #[.string a, .string b] w (SameW w (.int .i64 (cmpB a b))) := by
  have C1 := Lib.hid (fun a w => isNaN_nm a w)
  have HC := Lib.hid (cmpB_less a b)
  have key : ∀ r, cmpB a b = r → Calls Tryz.prog 341 #[.string a, .string b] w (SameW w (.int .i64 r)) → Calls Tryz.prog 341 #[.string a, .string b] w (SameW w (.int .i64 (cmpB a b))) := fun r h k => by rw [h]; exact k
  by_cases h1 : Op.bytesLess a.toList b.toList = true
  · refine key (-1) (by rw [HC.out, if_pos h1]) ?_
    clear key HC
    go_enter Tryz.func341, Tryz.ntmps341
    go_wp2_with fail
    refine (C1.out a _).mono ?_
    rintro e w' ⟨rfl, rfl⟩
    go_wp2_with fail
    refine (C1.out b _).mono ?_
    rintro e w' ⟨rfl, rfl⟩
    go_wp2
    go_ret
    exact ⟨rfl, rfl⟩
  · have h2 : Op.bytesLess a.toList b.toList = false := by simpa using h1
    by_cases e : a = b
    · subst e
      refine key 0 (by rw [HC.out, if_neg h1, if_pos rfl]) ?_
      clear key HC
      have h3 : (a.toList == a.toList) = true := by simp
      go_enter Tryz.func341, Tryz.ntmps341
      go_wp2_with fail
      refine (C1.out a _).mono ?_
      rintro e w' ⟨rfl, rfl⟩
      go_wp2_with fail
      refine (C1.out a _).mono ?_
      rintro e w' ⟨rfl, rfl⟩
      go_wp2
      go_ret
      exact ⟨rfl, rfl⟩
    · refine key 1 (by rw [HC.out, if_neg h1, if_neg e]) ?_
      have h3 : (a.toList == b.toList) = false := by rw [beq_eq_false_iff_ne]; exact fun h => e (toList_inj h)
      clear key HC e
      go_enter Tryz.func341, Tryz.ntmps341
      go_wp2_with fail
      refine (C1.out a _).mono ?_
      rintro e w' ⟨rfl, rfl⟩
      go_wp2_with fail
      refine (C1.out b _).mono ?_
      rintro e w' ⟨rfl, rfl⟩
      go_wp2
      go_ret
      exact ⟨rfl, rfl⟩

theorem beq0 {x : Int} (h : x = 0) : (x == 0) = true := by subst h; rfl
theorem bne0 {x : Int} (h : x ≠ 0) : (x == 0) = false := by rw [beq_eq_false_iff_ne]; exact h
theorem cThen3_hit (x y z : Int) : ∀ (k : Nat) (v : Int), ([x, y, z])[k]? = some v → v ≠ 0 → (∀ (j : Nat) (u : Int), j < k → ([x, y, z])[j]? = some u → u = 0) → cThen x (cThen y z) = v
  | 0, v, hv, hn, h0 => by
    obtain rfl : x = v := by simpa using hv
    simp [cThen, hn]
  | 1, v, hv, hn, h0 => by
    obtain rfl : y = v := by simpa using hv
    have := h0 0 x (by omega) rfl
    simp [cThen, this, hn]
  | 2, v, hv, hn, h0 => by
    obtain rfl : z = v := by simpa using hv
    have h1 := h0 0 x (by omega) rfl
    have h2 := h0 1 y (by omega) rfl
    simp [cThen, h1, h2]
  | k + 3, v, hv, _, _ => by simp at hv
theorem cThen3_zero (x y z : Int) (h0 : ∀ (j : Nat) (u : Int), j < 3 → ([x, y, z])[j]? = some u → u = 0) : cThen x (cThen y z) = 0 := by
  have h1 := h0 0 x (by omega) rfl
  have h2 := h0 1 y (by omega) rfl
  have h3 := h0 2 z (by omega) rfl
  simp [cThen, h1, h2, h3]
theorem Rd.any {w : World} {S : Nat → Prop} {size n : Nat} {A : Option Addr} {xs : List Value} (h : Rd w S size A n xs) : Rd w (fun _ => True) size A n xs :=
  ⟨h.1, fun hn => by obtain ⟨ad, e, _, hc⟩ := h.2 hn; exact ⟨ad, e, trivial, hc⟩⟩
set_option maxRecDepth 100000 in
set_option maxHeartbeats 1000000 in
theorem cmpOr_any (x y z : Int) (g : Nat) (w : World) (h : Blk w g 3 #[.int .i64 x, .int .i64 y, .int .i64 z]) : Calls Tryz.prog 327 #[.slice (some ⟨g, 0, none⟩) 3 3] w (SameW w (.int .i64 (cThen x (cThen y z)))) := by
  have HB := Lib.hid h
  have HC : Hid (∀ k : Nat, k < 3 → ∃ v : Int, ([x, y, z])[k]? = some v ∧ w.cell? ⟨g, k, none⟩ = some (.int .i64 v)) := fun k hk => by
    match k, hk with
    | 0, _ => exact ⟨x, rfl, h.cell 0⟩
    | 1, _ => exact ⟨y, rfl, h.cell 1⟩
    | 2, _ => exact ⟨z, rfl, h.cell 2⟩
  clear h
  have HX : Hid (∀ (k : Nat) (v : Int), ([x, y, z])[k]? = some v → v ≠ 0 → (∀ (j : Nat) (u : Int), j < k → ([x, y, z])[j]? = some u → u = 0) → cThen x (cThen y z) = v) := fun k v => cThen3_hit x y z k v
  have HZ : Hid ((∀ (j : Nat) (u : Int), j < 3 → ([x, y, z])[j]? = some u → u = 0) → cThen x (cThen y z) = 0) := cThen3_zero x y z
  generalize cThen x (cThen y z) = R at *
  go_enter Tryz.func327, Tryz.ntmps327
  go_wp2
  go_loopw [8] (fun i wr => ∃ k : Nat, k ≤ 3 ∧ (∀ j u, j < k → ([x, y, z])[j]? = some u → u = 0) ∧ i = .int .i64 k ∧ w = wr) (fun i _ => 3 - (intOf i).toNat)
  case atStart => exact ⟨0, by omega, fun j u h => by omega, rfl, rfl⟩
  case round =>
    obtain ⟨k, hk, hz, rfl, rfl⟩ := hrel
    have HK := Lib.hid hz
    clear hz
    by_cases hlt : k < 3
    · have hI : (k : Int) < 3 := by omega
      obtain ⟨v, hv, hc⟩ := HC.out k hlt
      have HV := Lib.hid hv
      clear hv
      by_cases hv0 : v = 0
      · subst hv0
        go_wp2
        go_roundw
        case rel => exact ⟨k + 1, by omega, fun j u hj hu => by
            by_cases e : j = k
            · subst e
              have := HV.out
              rw [hu] at this
              cases this
              rfl
            · exact HK.out j u (by omega) hu, by go_num, trivial⟩
        case measure => simp [intOf]; omega
      · have t1 := bne0 hv0
        obtain rfl : R = v := HX.out k v HV.out hv0 HK.out
        go_wp2
        go_ret
        exact ⟨rfl, rfl⟩
    · obtain rfl : k = 3 := by omega
      obtain rfl : R = 0 := HZ.out HK.out
      go_wp2
      go_ret
      exact ⟨rfl, rfl⟩
theorem cmpL_pre {α : Type} {c : α → α → Int} (h : IsCmp c) : ∀ (p a b : List α), cmpL c (p ++ a) (p ++ b) = cmpL c a b
  | [], _, _ => rfl
  | x :: p, a, b => by
    rw [List.cons_append, List.cons_append, cmpL, h.refl, cThen, if_pos rfl]
    exact cmpL_pre h p a b
set_option maxRecDepth 100000 in
set_option maxHeartbeats 2000000 in
theorem slicesCmp_any (xs ys : List Int) (A B : Option Addr) (n m c d : Nat) (w : World) (h1 : Rd w (fun _ => True) 1 A n (xs.map (Value.int .i64))) (h2 : Rd w (fun _ => True) 1 B m (ys.map (Value.int .i64))) (hn : n ≤ 1099511627776) (_hm : m ≤ 1099511627776) :
    Calls Tryz.prog 340 #[.slice A n c, .slice B m d] w (SameW w (.int .i64 (cmpL cmpZ xs ys))) := by
  have l1 : xs.length = n := by simpa using h1.1
  have l2 : ys.length = m := by simpa using h2.1
  have HA : Hid (∀ k v, xs[k]? = some v → ∃ ad, A = some ad ∧ w.cell? (ad.add k) = some (.int .i64 v)) := fun k v hv => by
    have hk := (List.getElem?_eq_some_iff.1 hv).1
    obtain ⟨ad, e, _, hc⟩ := h1.2 (by omega)
    exact ⟨ad, e, hc k _ (by rw [List.getElem?_map, hv]; rfl)⟩
  have HB : Hid (∀ k v, ys[k]? = some v → ∃ ad, B = some ad ∧ w.cell? (ad.add k) = some (.int .i64 v)) := fun k v hv => by
    have hk := (List.getElem?_eq_some_iff.1 hv).1
    obtain ⟨ad, e, _, hc⟩ := h2.2 (by omega)
    exact ⟨ad, e, hc k _ (by rw [List.getElem?_map, hv]; rfl)⟩
  have L1 := Lib.hid l1
  have L2 := Lib.hid l2
  have CI := Lib.hid (fun a b w => cmpInt_any a b w)
  obtain ⟨R, hR⟩ : ∃ R, R = cmpL cmpZ xs ys := ⟨_, rfl⟩
  rw [← hR]
  have HR := Lib.hid hR
  clear h1 h2 l1 l2 hR
  go_enter Tryz.func340, Tryz.ntmps340
  go_wp2
  go_loopw [11] (fun i wr => ∃ k : Nat, k ≤ n ∧ (∃ p a b, p.length = k ∧ xs = p ++ a ∧ ys = p ++ b) ∧ i = .int .i64 k ∧ w = wr) (fun i _ => n - (intOf i).toNat)
  case atStart => exact ⟨0, by omega, ⟨[], xs, ys, rfl, rfl, rfl⟩, rfl, rfl⟩
  case round =>
    obtain ⟨k, hk, ⟨p, a, b, hp, hx, hy⟩, rfl, rfl⟩ := hrel
    have HP := Lib.hid hp
    have HX := Lib.hid hx
    have HY := Lib.hid hy
    clear hp hx hy
    by_cases hlt : k < n
    · have hI : (k : Int) < (n : Int) := by omega
      have ha : ∃ v a', a = v :: a' := by
        cases a with
        | nil =>
          have h := L1.out
          rw [HX.out, List.append_nil, HP.out] at h
          omega
        | cons v a' => exact ⟨v, a', rfl⟩
      obtain ⟨v, a', rfl⟩ := ha
      obtain ⟨ad, rfl, hca⟩ := HA.out k v (by rw [HX.out, List.getElem?_append_right (by rw [HP.out]; omega), HP.out, Nat.sub_self]; rfl)
      by_cases hlm : k < m
      · have hJ : (k : Int) < (m : Int) := by omega
        have hJ2 : decide ((m : Int) ≤ (k : Int)) = false := decide_eq_false (by omega)
        have hb : ∃ u b', b = u :: b' := by
          cases b with
          | nil =>
            have h := L2.out
            rw [HY.out, List.append_nil, HP.out] at h
            omega
          | cons u b' => exact ⟨u, b', rfl⟩
        obtain ⟨u, b', rfl⟩ := hb
        obtain ⟨bd, rfl, hcb⟩ := HB.out k u (by rw [HY.out, List.getElem?_append_right (by rw [HP.out]; omega), HP.out, Nat.sub_self]; rfl)
        go_wp2_with fail
        refine (CI.out v u _).mono ?_
        rintro e w' ⟨rfl, rfl⟩
        have HC := Lib.hid (cmpI_eq v u)
        generalize cmpI v u = cc at *
        by_cases hc0 : cc = 0
        · subst hc0
          have hvu : Hid (v = u) := cmpZ_is.eq v u HC.out.symm
          go_wp2
          go_roundw
          case rel => exact ⟨k + 1, by omega, ⟨p ++ [v], a', b', by rw [List.length_append, HP.out]; rfl, by rw [HX.out]; simp, by rw [HY.out, hvu.out]; simp⟩, by go_num, trivial⟩
          case measure => simp [intOf]; omega
        · have t1 := bne0 hc0
          obtain rfl : R = cc := by
            rw [HR.out, HX.out, HY.out, cmpL_pre cmpZ_is, cmpL, ← HC.out, cThen, if_neg hc0]
          go_wp2
          go_ret
          exact ⟨rfl, rfl⟩
      · have hJ2 : decide ((m : Int) ≤ (k : Int)) = true := decide_eq_true (by omega)
        have hJ3 : ¬ (k : Int) < (m : Int) := by omega
        have hb : b = [] := by
          have h := congrArg List.length HY.out
          rw [L2.out, List.length_append, HP.out] at h
          exact List.length_eq_zero_iff.1 (by omega)
        subst hb
        obtain rfl : R = 1 := by rw [HR.out, HX.out, HY.out, cmpL_pre cmpZ_is]; rfl
        go_wp2
        go_ret
        exact ⟨rfl, rfl⟩
    · obtain rfl : k = n := by omega
      have ha : a = [] := by
        have h := congrArg List.length HX.out
        rw [L1.out, List.length_append, HP.out] at h
        exact List.length_eq_zero_iff.1 (by omega)
      subst ha
      have hRb : Hid (R = cmpL cmpZ [] b) := by simp only [Hid]; rw [HR.out, HX.out, HY.out, cmpL_pre cmpZ_is]
      have hmb : Hid (m = k + b.length) := by
        have h := congrArg List.length HY.out
        rw [L2.out, List.length_append, HP.out] at h
        exact h
      by_cases hlm : k < m
      · have hJ : (k : Int) < (m : Int) := by omega
        obtain rfl : R = -1 := by
          rw [hRb.out]
          cases b with
          | nil => have := hmb.out; simp at this; omega
          | cons u b' => rfl
        go_wp2
        go_ret
        exact ⟨rfl, rfl⟩
      · have hJ : ¬ (k : Int) < (m : Int) := by omega
        obtain rfl : R = 0 := by
          rw [hRb.out]
          cases b with
          | nil => rfl
          | cons u b' => have := hmb.out; simp at this; omega
        go_wp2
        go_ret
        exact ⟨rfl, rfl⟩
def cmpO (a b : ByteArray) : Int := if a = b then 0 else if validO a = true then (if validO b = true then cmpL cmpZ (ordsO a) (ordsO b) else -1) else if validO b = true then 1 else cmpB a b
theorem ordsO_le (s : ByteArray) : (ordsO s).length ≤ 9 := by rw [ordsO, List.length_map]; exact partsL_le s
set_option maxRecDepth 100000 in
set_option maxHeartbeats 2000000 in
theorem lineageCompare_any (a b : ByteArray) (w : World) (ha : a.size ≤ 1099511627776) (hb : b.size ≤ 1099511627776) : Calls Tryz.prog 326 #[.string a, .string b] w (Same' w (.int .i64 (cmpO a b))) := by
  by_cases e : a = b
  · subst e
    rw [show cmpO a a = 0 by simp [cmpO]]
    refine (lineageCompare_same a w).mono ?_
    rintro e w' ⟨rfl, rfl⟩
    exact ⟨rfl, Fr.refl _ _⟩
  · have te : (a.toList == b.toList) = false := by rw [beq_eq_false_iff_ne]; exact fun h => e (toList_inj h)
    have CVa := Lib.hid (fun w => Valid_any a w ha)
    have CVb := Lib.hid (fun w => Valid_any b w hb)
    have CN := Lib.hid (fun w => cmpNm_any a b w)
    have HO : Hid (cmpO a b = if validO a = true then (if validO b = true then cmpL cmpZ (ordsO a) (ordsO b) else -1) else if validO b = true then 1 else cmpB a b) := by simp only [Hid, cmpO]; rw [if_neg e]
    have COa := Lib.hid (fun w h => Ordinals_any a w ha h)
    have COb := Lib.hid (fun w h => Ordinals_any b w hb h)
    have HLa := Lib.hid (ordsO_le a)
    have HLb := Lib.hid (ordsO_le b)
    generalize cmpO a b = R at *
    generalize validO a = va at *
    generalize validO b = vb at *
    clear e
    go_enter Tryz.func326, Tryz.ntmps326
    go_wp2_with fail
    refine (CVa.out _).mono ?_
    rintro e w1 ⟨rfl, f1⟩
    have F1 := Lib.hid f1
    clear f1
    go_wp2_with fail
    refine (CVb.out _).mono ?_
    rintro e w2 ⟨rfl, f2⟩
    have F2 := Lib.hid (F1.out.trans f2)
    clear f2 F1
    cases va
    · cases vb
      · go_wp2_with fail
        refine (CN.out _).mono ?_
        rintro e w' ⟨rfl, rfl⟩
        go_wp2
        go_ret
        rw [HO.out]
        exact ⟨rfl, F2.out⟩
      · go_wp2
        go_ret
        rw [HO.out]
        exact ⟨rfl, F2.out⟩
    · cases vb
      · go_wp2
        go_ret
        rw [HO.out]
        exact ⟨rfl, F2.out⟩
      · go_wp2_with fail
        refine (COa.out _ (by first | rfl | trivial)).mono ?_
        rintro e w3 ⟨v, rfl, hg⟩
        obtain ⟨A1, m1, c1, rfl, H1, _⟩ := own_slice hg.own
        obtain rfl := H1.out
        have F3 := Lib.hid (F2.out.trans hg.fr0)
        have R3 := Lib.hid (Rd.of_own hg.own)
        clear hg
        go_wp2_with fail
        refine (COb.out _ (by first | rfl | trivial)).mono ?_
        rintro e w4 ⟨v, rfl, hg⟩
        obtain ⟨A2, m2, c2, rfl, H2, _⟩ := own_slice hg.own
        obtain rfl := H2.out
        have F4 := Lib.hid (F3.out.trans hg.fr0)
        have R4 := Lib.hid (Rd.of_own hg.own)
        have R34 := Lib.hid (R3.out.fr0 hg.fr0)
        clear hg
        go_wp2_with fail
        refine (slicesCmp_any (ordsO a) (ordsO b) A1 A2 _ _ c1 c2 w4 R34.out.any R4.out.any (by have := HLa.out; omega) (by have := HLb.out; omega)).mono ?_
        rintro e w' ⟨rfl, rfl⟩
        go_wp2
        go_ret
        rw [HO.out]
        exact ⟨rfl, F4.out⟩

def cmpN (n m : NameV) : Int := cThen (cmpZ n.kind m.kind) (cThen (cmpO n.owner m.owner) (cThen (cmpZ n.number m.number) (cThen (cmpZ n.index m.index) (cmpB n.text m.text))))
set_option maxRecDepth 100000 in
set_option maxHeartbeats 4000000 in
theorem objCompare_any (n m : NameV) (w : World) (hn : n.owner.size ≤ 1099511627776) (hm : m.owner.size ≤ 1099511627776) : Calls Tryz.prog 307 #[.agg n.cells.toArray, .agg m.cells.toArray] w (Same' w (.int .i64 (cmpN n m))) := by
  have C0 : Hid (∀ w, Calls Tryz.prog 325 #[.int .i64 n.kind, .int .i64 m.kind] w (SameW w (.int .i64 (cmpZ n.kind m.kind)))) := fun w => cmpInt_any _ _ w
  have C1 := Lib.hid (fun w => lineageCompare_any n.owner m.owner w hn hm)
  have C2 : Hid (∀ w, Calls Tryz.prog 325 #[.int .i64 n.number, .int .i64 m.number] w (SameW w (.int .i64 (cmpZ n.number m.number)))) := fun w => cmpInt_any _ _ w
  have C3 : Hid (∀ w, Calls Tryz.prog 325 #[.int .i64 n.index, .int .i64 m.index] w (SameW w (.int .i64 (cmpZ n.index m.index)))) := fun w => cmpInt_any _ _ w
  have C4 := Lib.hid (fun w => cmpStr_any n.text m.text w)
  have HN : Hid (cmpN n m = cThen (cmpZ n.kind m.kind) (cThen (cmpO n.owner m.owner) (cThen (cmpZ n.number m.number) (cThen (cmpZ n.index m.index) (cmpB n.text m.text))))) := rfl
  generalize cmpN n m = R at *
  generalize cmpZ n.kind m.kind = z0 at *
  generalize cmpO n.owner m.owner = z1 at *
  generalize cmpZ n.number m.number = z2 at *
  generalize cmpZ n.index m.index = z3 at *
  generalize cmpB n.text m.text = z4 at *
  clear hn hm
  go_enter Tryz.func307, Tryz.ntmps307
  go_wp2_with (refine wpList_boxBlk rfl 144 (.tmp 0) rfl n.cells.toArray rfl ?_)
  intro w1 n1
  have N1 := Lib.hid n1
  clear n1
  generalize hga : w.heap.size = ga at *
  have HA0 : Hid (Blk w1 ga 144 n.cells.toArray) := by have h := N1.out.blk; rw [hga] at h; exact h
  clear hga
  go_wp2_with (refine wpList_boxBlk rfl 144 (.tmp 1) rfl m.cells.toArray rfl ?_)
  intro w2 n2
  have N2 := Lib.hid n2
  clear n2
  generalize hgb : w1.heap.size = gb at *
  have Hgb : Hid (Blk w2 gb 144 m.cells.toArray) := by have h := N2.out.blk; rw [hgb] at h; exact h
  clear hgb
  have Hga := Lib.hid (HA0.out.fr N2.out.fr (fun x => x))
  have F2 := Lib.hid (N1.out.fr.trans N2.out.fr)
  have ca0 : w2.cell? ⟨ga, 0, none⟩ = some (.int .i64 n.kind) := Hga.out.cell 0
  have cb0 : w2.cell? ⟨gb, 0, none⟩ = some (.int .i64 m.kind) := Hgb.out.cell 0
  have ca1 : w2.cell? ⟨ga, 1, none⟩ = some (.string n.owner) := Hga.out.cell 1
  have cb1 : w2.cell? ⟨gb, 1, none⟩ = some (.string m.owner) := Hgb.out.cell 1
  clear N1 N2 HA0
  go_wp2_with fail
  refine (C0.out _).mono ?_
  rintro e w' ⟨rfl, rfl⟩
  by_cases h0 : z0 = 0
  · have HK0 := Lib.hid h0
    have t0 := beq0 h0
    clear h0
    go_wp2_with fail
    refine (C1.out _).mono ?_
    rintro e w3 ⟨rfl, f3⟩
    have F4 := Lib.hid f3
    clear f3 ca0 cb0 ca1 cb1
    by_cases h1 : z1 = 0
    · have HK1 := Lib.hid h1
      have t1 := beq0 h1
      clear h1
      go_upto_region 7 with fail
      refine wp_region_st 15 Nothing [Is (.pointer (some ⟨ga, 2, none⟩)), Is (.int .i64 n.number), Is (.pointer (some ⟨gb, 2, none⟩)), Is (.int .i64 m.number), Is (.int .i64 z2), Is (.pointer (some ⟨ga, 3, none⟩)), Is (.int .i64 n.index), Is (.pointer (some ⟨gb, 3, none⟩)), Is (.int .i64 m.index), Is (.int .i64 z3), Is (.pointer (some ⟨ga, 4, none⟩)), Is (.string n.text), Is (.pointer (some ⟨gb, 4, none⟩)), Is (.string m.text), Is (.int .i64 z4)] [] (fun _ => True) (fun _ _ => false) (by kernel_rfl) (by kernel_rfl) (by kernel_rfl) (by kernel_rfl) ⟨Is.stable _, Is.stable _, Is.stable _, Is.stable _, Is.stable _, Is.stable _, Is.stable _, Is.stable _, Is.stable _, Is.stable _, Is.stable _, Is.stable _, Is.stable _, Is.stable _, Is.stable _, trivial⟩ trivial (fun _ _ _ _ h => h) trivial ?_ ?_
      · refine ⟨fun u w' d hf hR k1 k0 kM => ?_, fun u w' d hf hR k1 k0 kM => ?_, fun u w' d hf hR k1 k0 kM => ?_, fun u w' d hf hR k1 k0 kM => ?_, fun u w' d hf hR k1 k0 kM => ?_, fun u w' d hf hR k1 k0 kM => ?_, fun u w' d hf hR k1 k0 kM => ?_, fun u w' d hf hR k1 k0 kM => ?_, fun u w' d hf hR k1 k0 kM => ?_, fun u w' d hf hR k1 k0 kM => ?_, fun u w' d hf hR k1 k0 kM => ?_, fun u w' d hf hR k1 k0 kM => ?_, fun u w' d hf hR k1 k0 kM => ?_, fun u w' d hf hR k1 k0 kM => ?_, fun u w' d hf hR k1 k0 kM => ?_, trivial⟩
        all_goals simp only [List.take_succ_cons, List.take_zero, List.map_cons, List.map_nil, puts, Act.put, List.setIfInBounds_toArray, List.set_cons_zero, List.set_cons_succ, Nat.reduceAdd, Nat.zero_add]
        · clear hR k1 k0 kM
          refine .inl ⟨by kernel_rfl, ?_⟩
          go_simp
          exact ⟨_, rfl, Fr.refl _ _, rfl, trivial⟩
        · have h0 : u 0 = _ := hR 0 (by kernel_rfl)
          clear hR k1 k0 kM
          simp only [h0]
          refine .inl ⟨by kernel_rfl, ?_⟩
          have hc : w'.cell? ⟨ga, 2, none⟩ = some (.int .i64 n.number) := (Hga.out.fr (F4.out.trans hf) (fun x => x)).cell 2
          go_simp
          exact ⟨_, rfl, Fr.refl _ _, rfl, trivial⟩
        · clear hR k1 k0 kM
          refine .inl ⟨by kernel_rfl, ?_⟩
          go_simp
          exact ⟨_, rfl, Fr.refl _ _, rfl, trivial⟩
        · have h2 : u 2 = _ := hR 2 (by kernel_rfl)
          clear hR k1 k0 kM
          simp only [h2]
          refine .inl ⟨by kernel_rfl, ?_⟩
          have hc : w'.cell? ⟨gb, 2, none⟩ = some (.int .i64 m.number) := (Hgb.out.fr (F4.out.trans hf) (fun x => x)).cell 2
          go_simp
          exact ⟨_, rfl, Fr.refl _ _, rfl, trivial⟩
        · have h1 : u 1 = _ := hR 1 (by kernel_rfl)
          have h3 : u 3 = _ := hR 3 (by kernel_rfl)
          clear hR k1 k0 kM
          simp only [h1, h3]
          refine .inl ⟨by kernel_rfl, ?_⟩
          go_simp
          refine (C2.out _).mono ?_
          rintro e w4 ⟨rfl, rfl⟩
          exact ⟨_, rfl, Fr.refl _ _, rfl, trivial⟩
        · clear hR k1 k0 kM
          refine .inl ⟨by kernel_rfl, ?_⟩
          go_simp
          exact ⟨_, rfl, Fr.refl _ _, rfl, trivial⟩
        · have h5 : u 5 = _ := hR 5 (by kernel_rfl)
          clear hR k1 k0 kM
          simp only [h5]
          refine .inl ⟨by kernel_rfl, ?_⟩
          have hc : w'.cell? ⟨ga, 3, none⟩ = some (.int .i64 n.index) := (Hga.out.fr (F4.out.trans hf) (fun x => x)).cell 3
          go_simp
          exact ⟨_, rfl, Fr.refl _ _, rfl, trivial⟩
        · clear hR k1 k0 kM
          refine .inl ⟨by kernel_rfl, ?_⟩
          go_simp
          exact ⟨_, rfl, Fr.refl _ _, rfl, trivial⟩
        · have h7 : u 7 = _ := hR 7 (by kernel_rfl)
          clear hR k1 k0 kM
          simp only [h7]
          refine .inl ⟨by kernel_rfl, ?_⟩
          have hc : w'.cell? ⟨gb, 3, none⟩ = some (.int .i64 m.index) := (Hgb.out.fr (F4.out.trans hf) (fun x => x)).cell 3
          go_simp
          exact ⟨_, rfl, Fr.refl _ _, rfl, trivial⟩
        · have h6 : u 6 = _ := hR 6 (by kernel_rfl)
          have h8 : u 8 = _ := hR 8 (by kernel_rfl)
          clear hR k1 k0 kM
          simp only [h6, h8]
          refine .inl ⟨by kernel_rfl, ?_⟩
          go_simp
          refine (C3.out _).mono ?_
          rintro e w4 ⟨rfl, rfl⟩
          exact ⟨_, rfl, Fr.refl _ _, rfl, trivial⟩
        · clear hR k1 k0 kM
          refine .inl ⟨by kernel_rfl, ?_⟩
          go_simp
          exact ⟨_, rfl, Fr.refl _ _, rfl, trivial⟩
        · have h10 : u 10 = _ := hR 10 (by kernel_rfl)
          clear hR k1 k0 kM
          simp only [h10]
          refine .inl ⟨by kernel_rfl, ?_⟩
          have hc : w'.cell? ⟨ga, 4, none⟩ = some (.string n.text) := (Hga.out.fr (F4.out.trans hf) (fun x => x)).cell 4
          go_simp
          exact ⟨_, rfl, Fr.refl _ _, rfl, trivial⟩
        · clear hR k1 k0 kM
          refine .inl ⟨by kernel_rfl, ?_⟩
          go_simp
          exact ⟨_, rfl, Fr.refl _ _, rfl, trivial⟩
        · have h12 : u 12 = _ := hR 12 (by kernel_rfl)
          clear hR k1 k0 kM
          simp only [h12]
          refine .inl ⟨by kernel_rfl, ?_⟩
          have hc : w'.cell? ⟨gb, 4, none⟩ = some (.string m.text) := (Hgb.out.fr (F4.out.trans hf) (fun x => x)).cell 4
          go_simp
          exact ⟨_, rfl, Fr.refl _ _, rfl, trivial⟩
        · have h11 : u 11 = _ := hR 11 (by kernel_rfl)
          have h13 : u 13 = _ := hR 13 (by kernel_rfl)
          clear hR k1 k0 kM
          simp only [h11, h13]
          refine .inl ⟨by kernel_rfl, ?_⟩
          go_simp
          refine (C4.out _).mono ?_
          rintro e w4 ⟨rfl, rfl⟩
          exact ⟨_, rfl, Fr.refl _ _, rfl, trivial⟩
      · intro u w' hf hR kM
        have k4 : u 4 = _ := hR 4 (by omega)
        have k9 : u 9 = _ := hR 9 (by omega)
        have k14 : u 14 = _ := hR 14 (by omega)
        clear hR kM
        simp only [List.take_succ_cons, List.take_zero, List.map_cons, List.map_nil, puts, Act.put, List.setIfInBounds_toArray, List.set_cons_zero, List.set_cons_succ, List.drop_succ_cons, List.drop_zero, Nat.reduceAdd, Nat.zero_add, k4, k9, k14]
        have HF := Lib.hid (F2.out.trans (F4.out.trans hf))
        clear hf k4 k9 k14
        obtain ⟨i0, hi0, hz0', hz1, hz2⟩ := info_parts infoIntP
        have gc1 : Hid (¬ 3 * i0.size > 2 ^ 24) := by simp only [Hid]; rw [hz1]; omega
        have gc2 : Hid (¬ 3 * i0.size = 0) := by simp only [Hid]; rw [hz1]; omega
        go_wp2_with fail
        have BI : Hid (Blk (w'.alloc (.cells #[.int .i64 z2, .int .i64 z3, .int .i64 z4] 3)) w'.heap.size 3 #[.int .i64 z2, .int .i64 z3, .int .i64 z4]) := Blk.new _ _ _
        have FI := Lib.hid (HF.out.trans ((Fr.refl Nothing w').alloc (.cells #[.int .i64 z2, .int .i64 z3, .int .i64 z4] 3)))
        refine (cmpOr_any z2 z3 z4 _ _ BI.out).mono ?_
        rintro e w5 ⟨rfl, rfl⟩
        go_wp2
        go_ret
        rw [HN.out, HK0.out, HK1.out]
        exact ⟨rfl, FI.out⟩
    · have t1 := bne0 h1
      have HK1 := Lib.hid h1
      clear h1
      go_wp2
      go_ret
      rw [HN.out, HK0.out, cThen, if_pos rfl, cThen, if_neg HK1.out]
      exact ⟨rfl, F2.out.trans F4.out⟩
  · have t0 := bne0 h0
    have HK0 := Lib.hid h0
    clear h0
    go_wp2
    go_ret
    rw [HN.out, cThen, if_neg HK0.out]
    exact ⟨rfl, F2.out⟩
end Go.Proofs.YtmpokappjogehaaGreatDoor
