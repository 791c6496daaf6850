/- State: Ordinals (written by genSaU.py). -/
import Derived.Test.YtpnchdgplpdefaaGreatDoorEnSaT
namespace Go.Proofs.YtpnchdgplpdefaaGreatDoor
open Go.RowKit Go.Shelf
attribute [local go_sem] Oper.semAt_some
structure RowP {α : Type} (w0 w3 : World) (g2 : Nat) (bt e : TypeId) (sz : Nat) (cnt : List α → Nat) (cells : List α → List Value) (pre : List α) (W : World) : Prop where
 fr : Fr Nothing w0 W
 kn : KP w3 W
 row : ∃ v, Blk W g2 bt #[v] ∧ W.ownsRow 0 e sz v (cnt pre) (cells pre) ∧ ∀ k, v.ownBlock = some k → w0.heap.size ≤ k ∧ k ≠ g2
theorem RowP.ownFrom {α : Type} {w0 w3 : World} {g2 : Nat} {bt e : TypeId} {sz B : Nat} {cnt : List α → Nat} {cells : List α → List Value} (h2 : g2 < B) (hB : w0.heap.size ≤ B) : OwnFrom B (RowP w0 w3 g2 bt e sz cnt cells) := by
 intro pre X Y row h hg hr
 have hrow : ∀ k, k < B → some k ≠ row := fun k hk e => by have := (hr k e.symm).1; omega
 have hf : Fr (fun k => some k = row) X Y := Fr.grown hg
 obtain ⟨v, b11, hown, hl⟩ := h.row
 refine ⟨h.fr.then_ hf (fun i hi e => absurd e (hrow i (by omega))), h.kn.trans (KP.fr hf (fun g t cs _ hb e => ?_)), ⟨v, b11.fr hf (fun e => hrow _ h2 e), own_fr hown hf (fun k hk e => ?_), hl⟩⟩
 ·obtain ⟨_, o, ho, hc⟩ := hr g e.symm
  unfold Blk at hb
  rw [hb] at ho
  cases ho
  simp [Obj.isCells] at hc
 ·obtain ⟨_, o, ho, hc⟩ := hr k e.symm
  obtain ⟨c, f, ho'⟩ := own_block hown hk
  rw [ho'] at ho
  cases ho
  simp [Obj.isCells] at hc
theorem RowP.same {α : Type} {w0 w3 W X : World} {g2 : Nat} {bt e : TypeId} {sz : Nat} {cnt : List α → Nat} {cells : List α → List Value} {pre pre' : List α} (h : RowP w0 w3 g2 bt e sz cnt cells pre W) (hX : Fr Nothing W X) (h1 : cnt pre' = cnt pre) (h2 : cells pre' = cells pre) : RowP w0 w3 g2 bt e sz cnt cells pre' X := by
 obtain ⟨v, b11, hown, hl⟩ := h.row
 refine ⟨h.fr.trans hX, h.kn.trans (KP.fr hX (fun _ _ _ _ _ x => x)), ⟨v, b11.fr hX (fun x => x), ?_, hl⟩⟩
 rw [h1, h2]
 exact own_fr hown hX (fun _ _ x => x)
theorem RowP.step {α : Type} {w0 w3 W X X2 X3 : World} {g2 B : Nat} {bt e : TypeId} {sz : Nat} {cnt : List α → Nat} {cells : List α → List Value} {pre pre' : List α} {v v2 : Value}
  (hI : RowP w0 w3 g2 bt e sz cnt cells pre W) (_h2 : g2 < B) (_hB : w0.heap.size ≤ B) (hg2 : w0.heap.size ≤ g2) (hbt : bt ≠ 9 ∧ bt ≠ 166) (he : e ≠ 9 ∧ e ≠ 166) (hb : Blk W g2 bt #[v])
  (hown : W.ownsRow 0 e sz v (cnt pre) (cells pre)) (hlies : ∀ k, v.ownBlock = some k → w0.heap.size ≤ k ∧ k ≠ g2)
  (hX : Fr Nothing W X) (hG : Grew e sz X v X2 v2 (cnt pre') (cells pre')) (f3 : Fr (fun k => k = g2) X2 X3) (b3 : Blk X3 g2 bt #[v2]) :
  KeepsFrom B W X3 ∧ KP W X3 ∧ RowP w0 w3 g2 bt e sz cnt cells pre' X3 := by
 have s1 : w0.heap.size ≤ W.heap.size := hI.fr.size
 have s2 : W.heap.size ≤ X.heap.size := hX.size
 have s3 : g2 < W.heap.size := hb.lt
 have hl2 : ∀ k, v2.ownBlock = some k → w0.heap.size ≤ k ∧ k ≠ g2 := fun k hk => by
  rcases hG.lies k hk with h | h
  ·exact hlies k h
  ·constructor <;> omega
 have F : Fr (fun k => k = g2 ∨ v.ownBlock = some k) W X3 := by
  have A1 : Fr (fun k => k = g2 ∨ v.ownBlock = some k) W X2 := (hX.weak).trans (hG.fr.mono (fun i _ h => .inr h))
  exact A1.trans (f3.mono (fun i _ h => .inl h))
 have K : KP W X3 := KP.fr F (fun g t cs ht hn h => by
  unfold Blk at hn hb
  rcases h with rfl | h
  ·rw [hb] at hn
   cases hn
   exact ht.elim hbt.1 hbt.2
  ·obtain ⟨c, f, ho⟩ := own_block hown h
   rw [ho] at hn
   cases hn
   exact ht.elim he.1 he.2)
 refine ⟨⟨F.size, fun k o _ ho hc => ?_⟩, K, ?_, hI.kn.trans K, ?_⟩
 ·refine (F.block k (Array.getElem?_eq_some_iff.1 ho).1 ?_).trans ho
  rintro (rfl | h)
  ·omega
  ·obtain ⟨c, f, ho'⟩ := own_block hown h
   rw [ho] at ho'
   cases ho'
   simp [Obj.isCells] at hc
 ·refine hI.fr.then_ F (fun i hi h => ?_)
  rcases h with h | h
  ·omega
  ·have := (hlies i h).1
   omega
 ·exact ⟨v2, b3, own_fr hG.own f3 (fun k hk e => (hl2 k hk).2 e), hl2⟩
theorem zvInts (w : World) : (zeroValue 149).run Tryz.prog w = .ok (.slice none 0 0) w := by kernel_rfl
theorem infoInts : (Tryz.prog.info? 149).map (·.size) = some 1 := by kernel_rfl
theorem infoIntP : (Tryz.prog.info? 3).map (fun i => (i.zero, i.size, i.bytes)) = some (some (.int .i64 0), 1, 8) := by kernel_rfl
theorem results_ords (tmps : Array Value) (w : World) (g2 : Nat) (v : Value) (h2 : tmps.getD 2 undef = .pointer (some ⟨g2, 0, none⟩)) (b2 : Blk w g2 149 #[v]) :
  (results Tryz.f87 tmps).run Tryz.prog w = .ok v w := by
 have h2' : tmps[2]?.getD undef = .pointer (some ⟨g2, 0, none⟩) := by simpa using h2
 simp [results, Tryz.results87, h2', asAddr, run_loadVar_one w g2 _ _ _ b2 infoInts (Tryz.isAgg149 w)]
def ordI (p : Part) : Value := .int .i64 (p.ord : Int)
def ordsW (ys : List Part) : List Value := ys.map ordI
structure OrdI (w0 w3 : World) (g2 g3 : Nat) (pre : List Part) (W : World) : Prop where
 row : RowP w0 w3 g3 149 3 1 List.length ordsW pre W
 res : ∃ v, Blk W g2 149 #[v]
 lies : ∀ v, Blk W g3 149 #[v] → v.ownBlock ≠ some g2
theorem OrdI.later {w0 w3 A B : World} {g2 g3 : Nat} {pre : List Part} (h : OrdI w0 w3 g2 g3 pre A) (f : Fr Nothing A B) (h3 : g3 < A.heap.size) : OrdI w0 w3 g2 g3 pre B :=
 ⟨h.row.same f rfl rfl, by obtain ⟨v, hv⟩ := h.res; exact ⟨v, hv.fr f (fun x => x)⟩, fun v hb => h.lies v (by
  have e := f.block g3 h3 (fun x => x)
  unfold Blk at hb ⊢
  rw [← e]
  exact hb)⟩
theorem OrdI.ownFrom {w0 w3 : World} {g2 g3 N : Nat} (h3 : g3 < N) (hN : w0.heap.size ≤ N) : OwnFrom N (OrdI w0 w3 g2 g3) := by
 intro pre A B row h hg hr
 obtain ⟨hf, _, hb⟩ := grown_hf hg hr
 refine ⟨RowP.ownFrom h3 hN pre A B row h.row hg hr, by obtain ⟨v, hv⟩ := h.res; exact ⟨v, hb _ _ _ hv⟩, fun v hv => h.lies v ?_⟩
 obtain ⟨v', hv', _⟩ := h.row.row
 have e := hb _ _ _ hv'
 unfold Blk at hv e hv' ⊢
 rw [e] at hv
 cases hv
 exact hv'
def opLd174 : Op → Bool
 | .load t _ => t == 149
 | _ => false
def opSt174 : Op → Bool
 | .store t _ _ => t == 149
 | _ => false
def Ordd (w : World) (s : ByteArray) (r : Ending) (w' : World) : Prop := ∃ v, r = .returned v ∧ Grew 3 1 w (.slice none 0 0) w' v (ordsO s).length ((ordsO s).map (Value.int .i64))
set_option maxRecDepth 100000 in
set_option maxHeartbeats 4000000 in
theorem Ordinals_any (s : ByteArray) (w : World) (hs : s.size ≤ 1099511627776) (hv : validO s = true) : Calls Tryz.prog 87 #[.string s] w (Ordd w s) := by
 obtain ⟨i0, hi0, hz0', hz1, hz2⟩ := info_parts infoIntP
 have HS := Lib.hid hs
 have HV := Lib.hid hv
 clear hs hv
 refine (callsIn_wide (n := 6)).1 (callsIn_of_wp_marks Tryz.func87 rfl trivial (wpIn_wide.2 ?_) rfl)
 simp only [Tryz.ntmps87, List.size_toArray, List.length_cons, List.length_nil, Nat.reduceAdd, Nat.reduceSub, Array.replicate_succ, Array.replicate_zero, List.push_toArray, List.append_toArray, List.nil_append, List.cons_append]
 go_wp2_with (refine wpList_allocBlk rfl 149 rfl (.slice none 0 0) zvInts #[.slice none 0 0] rfl ?_)
 intro wa na
 have FA := Lib.hid na.fr
 have B2 := Lib.hid na.blk
 have Z2 : Sz w w.heap.size := Nat.le_refl _
 clear na
 generalize w.heap.size = g2 at *
 go_wp2_with (refine wpList_allocBlk rfl 149 rfl (.slice none 0 0) zvInts #[.slice none 0 0] rfl ?_)
 intro w2 nb
 have FB := Lib.hid (FA.out.trans nb.fr)
 have B2b := Lib.hid (B2.out.fr nb.fr (fun x => x))
 have B3 := Lib.hid nb.blk
 have Z3 : Sz w wa.heap.size := FA.out.size
 have N23 : Hid (g2 < wa.heap.size) := B2.out.lt
 clear nb B2 FA
 generalize wa.heap.size = g3 at *
 have E2 : Hid (OrdI w w2 g2 g3 [] w2) := ⟨⟨FB.out, KP.refl _, _, B3.out, ⟨rfl, .inl ⟨rfl, rfl⟩⟩, fun k hk => by simp [Value.ownBlock] at hk⟩, ⟨_, B2b.out⟩, fun v hb => by
  have h := B3.out
  unfold Blk at h hb
  rw [h] at hb
  cases hb
  simp [Value.ownBlock]⟩
 have L3 : Hid (g3 < w2.heap.size) := B3.out.lt
 clear B3 B2b FB
 go_wp2_with fail
 refine (parts_any s _).mono ?_
 rintro r w3 ⟨rfl, f3, b3⟩
 have E3 : Hid (OrdI w w2 g2 g3 [] w3) := E2.out.later f3 L3.out
 have G3 := Lib.hid b3
 have F23 : Hid (w2.heap.size ≤ w3.heap.size) := f3.size
 clear f3 b3 E2
 generalize w2.heap.size = gs at *
 go_wp2_with fail
 refine (wpIn_wide (n := 6)).1 ?_
 refine wpIn_rangeFunc_ownH rfl (by omega) (gf := 104) (lb := #[.pointer (some ⟨gs, 0, none⟩)]) rfl trivial (enters_of Tryz.func104 (by kernel_rfl) rfl)
  (parts_stops 5 gs s w3 HS.out G3.out) (fun h k => h.trans k) (fun W l o o' _ ho hc _ => KP.put W l o o' ho hc) (Below.refl _ _) (fun _ => rfl)
  (OrdI w w2 g2 g3) (fun _ pre _ => ∃ x ∈ pre, x.e ≠ 0) (OrdI.ownFrom (Nat.lt_of_lt_of_le L3.out F23.out) E3.out.row.fr.size) (fun _ _ _ _ _ h _ _ => h) E3.out
  (fun x a' W => ∃ g, a' = ({ tmps := #[.string s, undef, .pointer (some ⟨g2, 0, none⟩), .pointer (some ⟨g3, 0, none⟩), .pointer (some ⟨g, 0, none⟩), .string s, .func (.func 104) #[] #[.pointer (some ⟨gs, 0, none⟩)], .agg #[.int .i64 x.ord, .int .i64 x.at_, .int .i64 x.e], undef, undef, undef, undef, undef, undef, undef, undef, undef], defers := [] } : Act) ∧ Blk W g 166 (partC x))
  (fun x a' _ A B row h hg hr => by
   obtain ⟨g, e, hb⟩ := h
   exact ⟨g, e, (grown_hf hg hr).2.2 _ _ _ hb⟩)
  ?assign ?body ?done ?stop
 case assign =>
  intro l pre x W K hI hK
  have HK := Lib.hid hK
  have HI := Lib.hid hI
  clear hK hI
  gi_wp2_with (refine wpListIn_round1 opAlloc rfl (by kernel_rfl) ?_)
  go_wp2_with (refine wpList_allocBlk rfl 166 rfl (.agg partZ) zvPart partZ rfl ?_)
  intro wa na
  have FA := Lib.hid na.fr
  have BA := Lib.hid na.blk
  have Z1 : Sz W W.heap.size := Nat.le_refl _
  clear na
  generalize W.heap.size = g at *
  go_wp2_with (refine wpList_storeBlk rfl 166 (.tmp 4) _ rfl g (partC x) rfl rfl _ _ BA.out infoPart rfl (part_one x) ?_)
  intro wb bb fb
  have FB : Fr Nothing W wb := FA.out.then_ fb (fun i hi e => by have e' : i = g := e; have := Z1; unfold Sz at this; omega)
  refine ⟨?_, rfl⟩
  refine HK.out _ _ ⟨FB.size, fun k o _ ho _ => (FB.block k (Array.getElem?_eq_some_iff.1 ho).1 (fun x => x)).trans ho⟩ (KP.fr FB (fun _ _ _ _ _ x => x)) (HI.out.later FB (by obtain ⟨v, hb, _, _⟩ := HI.out.row.row; exact hb.lt)) ⟨g, rfl, bb⟩
 case body =>
  rintro l' pre x a' W hl hlr hI ⟨g, rfl, hbx⟩ hlt
  have HI := Lib.hid hI
  have BX := Lib.hid hbx
  have q0 : W.cell? ⟨g, 0, none⟩ = some (.int .i64 x.ord) := hbx.cell 0
  have q2 : W.cell? ⟨g, 2, none⟩ = some (.int .i64 x.e) := hbx.cell 2
  obtain ⟨v2, h2⟩ := hI.res
  obtain ⟨v, b3, hrow, hlies⟩ := hI.row.row
  obtain ⟨A1, m1, c1, rfl, H1, H2⟩ := own_slice hrow
  have NL := Lib.hid (hI.lies _ b3)
  have HROW := Lib.hid hrow
  have HLI := Lib.hid hlies
  have B2 := Lib.hid h2
  have B3 := Lib.hid b3
  have c3 : W.cell? ⟨g3, 0, none⟩ = some (.slice A1 m1 c1) := b3.cell 0
  have HLT : Hid (pre.length < 9) := Nat.lt_of_lt_of_le hlt (partsL_le s)
  clear hI hbx hlt hl hlr h2 b3 hrow hlies
  by_cases hz : x.e = 0
  ·have tz2 : ((x.e : Int) == 0) = true := by rw [beq_iff_eq]; omega
   gi_wp2_with (refine wpListIn_round1 opLd174 rfl (by kernel_rfl) ?_)
   go_wp2_with (at_builtin; refine wpList_app1 _ rfl _ _ 149 rfl 3 i0 (.int .i64 0) 1 8 Tryz.underlying149 hi0 hz0' hz1 hz2 rfl (by omega) _ _ _ rfl HROW.out 1 _ _ rfl rfl rfl ?e1 ?e2 (by omega) ?_)
   case e1 => simp [Value.oneCell']
   case e2 => have := HLT.out; omega
   intro v2' y2 hG
   have KG := Lib.hid hG
   clear hG
   have B3y : Hid (Blk y2 g3 149 #[.slice A1 m1 c1]) := B3.out.fr KG.out.fr (fun e => (HLI.out _ e).2 rfl)
   obtain ⟨A2, m2, c2, rfl, _, _⟩ := own_slice KG.out.own
   go_wp2_with (refine wpList_store1 rfl 149 (.tmp 3) _ rfl g3 (.slice A2 m2 c2) rfl rfl rfl _ _ B3y.out infoInts ?_)
   intro y3 b3' f3
   refine ⟨?_, rfl⟩
   have KG' : Grew 3 1 W (.slice A1 m1 c1) y2 (.slice A2 m2 c2) ((pre ++ [x]).length) (ordsW (pre ++ [x])) := by
    have h := KG.out
    rw [List.length_append, ordsW, List.map_append]
    exact h
   have KEY := RowP.step (v := .slice A1 m1 c1) (v2 := .slice A2 m2 c2) HI.out.row L3.out (Nat.le_trans Z3 (Nat.le_of_lt L3.out)) Z3 (by decide) (by decide) B3.out HROW.out HLI.out (Fr.refl _ _) KG' f3 b3'
   have B2z : Blk y3 g2 149 #[v2] := (B2.out.fr KG.out.fr NL.out).fr f3 (fun e => by have e' : g2 = g3 := e; have := N23.out; omega)
   have KF : KeepsFrom w3.heap.size W y3 := ⟨KEY.1.size, fun q o hq ho hc => KEY.1.same q o (Nat.le_trans F23.out hq) ho hc⟩
   refine ⟨KF, KEY.2.1, ⟨KEY.2.2, ⟨_, B2z⟩, fun v hv e => ?_⟩⟩
   unfold Blk at hv b3'
   rw [b3'] at hv
   cases hv
   rcases KG.out.lies _ e with h | h
   ·exact NL.out h
   ·have := B2.out.lt
    omega
  ·have tz2 : ((x.e : Int) == 0) = false := by rw [beq_eq_false_iff_ne]; omega
   have HZ := Lib.hid hz
   gi_wp2_with (refine wpListIn_round1 opSt174 rfl (by kernel_rfl) ?_)
   go_wp2_with (refine wpList_store1 rfl 149 (.tmp 2) _ rfl g2 (.slice none 0 0) rfl rfl rfl _ _ B2.out infoInts ?_)
   intro wq bq fq
   refine ⟨?_, rfl⟩
   gi_wp2
   refine ⟨⟨fq.size, fun q o hB ho hc => (fq.block q (Array.getElem?_eq_some_iff.1 ho).1 (fun hq => ?_)).trans ho⟩, x, by simp, HZ.out⟩
   have e : q = g2 := hq
   subst e
   have hb := B2.out
   unfold Blk at hb
   rw [hb] at ho
   cases ho
   simp [Obj.isCells] at hc
 case done =>
  rintro D xs W hD rfl hI hK
  obtain ⟨v2, h2⟩ := hI.res
  obtain ⟨v, b3, hrow, hlies⟩ := hI.row.row
  obtain ⟨A1, m1, c1, rfl, H1, H2⟩ := own_slice hrow
  have KD := Lib.hid hK
  have HD := Lib.hid hD
  have HI := Lib.hid hI
  have NL := Lib.hid (hI.lies _ b3)
  have HROW := Lib.hid hrow
  have HLI := Lib.hid hlies
  have B2 := Lib.hid h2
  have c3 : W.cell? ⟨g3, 0, none⟩ = some (.slice A1 m1 c1) := b3.cell 0
  clear hI hD hK h2 b3 hrow hlies
  go_wp2_with (refine wpList_store1 rfl 149 (.tmp 2) _ rfl g2 (.slice A1 m1 c1) rfl rfl rfl _ _ B2.out infoInts ?_)
  intro wq bq fq
  have KB := Lib.hid bq
  have KF := Lib.hid fq
  have KD2 : Hid (wq.heap[D]? = some (.deferred (some []))) := by
   refine (KF.out.block D (Array.getElem?_eq_some_iff.1 KD.out).1 (fun hq => ?_)).trans KD.out
   have hd := KD.out
   have e : D = g2 := hq
   subst e
   have hn := B2.out
   unfold Blk at hn
   rw [hd] at hn
   cases hn
  clear bq fq c3
  go_wp2
  refine ⟨by simp, .inl ⟨_, _, rfl, run_takeDeferred KD2.out, ?_⟩⟩
  have PF : Fr (fun k => some k = some D) wq (wq.putObj D (.deferred none)) := Fr.grown (grownBy_putObj' wq D _)
  have nB : ∀ g, (∃ c t f, wq.heap[g]? = some (.cells c t f)) → ¬ (some g = some D) := fun g ⟨c, t, f, hb⟩ e => by
   have e' : g = D := by simpa using e
   subst e'
   rw [KD2.out] at hb
   cases hb
  refine ⟨_, results_ords _ _ g2 _ rfl (KB.out.fr PF (nB g2 ⟨_, _, _, KB.out⟩)), ⟨_, rfl, ⟨?_, ?_, fun k hk => .inr (HLI.out k hk).1⟩⟩⟩
  ·have h1 := own_fr HROW.out KF.out (fun k hk e => by have e' : k = g2 := e; subst e'; exact NL.out hk)
   have h2 := own_fr h1 PF (fun k hk e => by
    obtain ⟨c, f, ho⟩ := own_block h1 hk
    exact nB k ⟨_, _, _, ho⟩ e)
   rw [ordsO, List.length_map, List.map_map]
   exact h2
  ·refine ((HI.out.row.fr.then_ KF.out (fun i hi e => ?_)).then_ PF (fun i hi e => ?_)).weak
   ·have e' : i = g2 := e
    have h2 := Z2
    unfold Sz at h2
    omega
   ·have e' : i = D := by simpa using e
    have := HD.out
    have := E3.out.row.fr.size
    omega
 case stop =>
  rintro D cd pre W hD hpre ⟨x, hx, hz⟩ hK
  have h := HV.out
  rw [validO, List.all_eq_true] at h
  have := h x (hpre.subset hx)
  simp only [beq_iff_eq] at this
  exact absurd this hz
end Go.Proofs.YtpnchdgplpdefaaGreatDoor
