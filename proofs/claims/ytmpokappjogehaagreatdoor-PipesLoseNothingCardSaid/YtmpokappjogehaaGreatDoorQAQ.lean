/- Steps of the proof of LawPipesLoseNothing: contracts of the functions that the law reaches, for every world that holds what each of them asks. -/
import Derived.Shelf.SlMaps.Clone
import Derived.Test.YtmpokappjogehaaGreatDoorQAP
import Derived.Great.Ranges
import Derived.Test.YtmpokappjogehaaGreatDoorQAN
import Derived.Test.YtmpokappjogehaaGreatDoorQAC
import Derived.Test.YtmpokappjogehaaGreatDoorQAI
set_option linter.unusedVariables false
set_option linter.unusedSimpArgs false
namespace Go.Proofs.YtmpokappjogehaaGreatDoor
open Go.RowKit

set_option maxRecDepth 100000 in
set_option maxHeartbeats 2000000 in
theorem SGet_leaf (n : NameV) (s : Nat) (w : World) (hS : StH w s .leaf) :
    Calls Tryz.prog 199 #[.pointer (some ⟨s, 0, none⟩), .agg n.cells.toArray] w (Same' w (.tuple #[.string ByteArray.empty, .bool false])) := by
  obtain ⟨a, hb, hn⟩ := hS
  obtain rfl : a = none := hn
  have HB := Lib.hid hb
  clear hb
  go_enter Tryz.func199, Tryz.ntmps199
  go_wp2_with (refine wpList_boxBlk rfl 144 (.tmp 1) rfl n.cells.toArray rfl ?_)
  intro w1 n1
  have F1 := Lib.hid n1.fr
  have NB := Lib.hid n1.blk
  clear n1
  generalize w.heap.size = gb at *
  go_upto_region 3 with fail
  refine wp_mid 5 (by kernel_rfl) (by kernel_rfl) ?_
  intro w2 f2
  have hc : w2.cell? ⟨s, 0, none⟩ = some (.pointer none) := Blk.cell (Blk.fr HB.out (F1.out.trans f2) (fun x => x)) 0
  have F2 := Lib.hid (F1.out.trans f2)
  have NB2 := Lib.hid (Blk.fr NB.out f2 (fun x => x))
  clear f2
  simp only [List.take_succ_cons, List.take_zero, List.drop_succ_cons, List.drop_zero]
  still_step
  still_step
  still_step
  still_step
  refine still_load rfl _ _ rfl gb rfl NB2.out Tryz.underlying144 rfl infoName ?_
  refine wpStill_nil ?_
  go_wp2_with fail
  refine (find_none n w2).mono ?_
  rintro e w3 ⟨rfl, f3⟩
  have F3 := Lib.hid (F2.out.trans f3)
  clear f3
  go_wp2
  repeat still_step
  refine wpStill_nil ?_
  go_wp2
  go_ret2
  exact ⟨rfl, F3.out⟩
theorem CV.name_at (c : CV) : ∀ j v, c.nm.cells[j]? = some v → c.cells.toArray[0 + j]? = some v := fun j v h => by
  rw [Nat.zero_add, List.getElem?_toArray, CV.cells, List.getElem?_append_left (List.getElem?_eq_some_iff.1 h).1]
  exact h
theorem own_not_map {w : World} {base n k b : Nat} {e : TypeId} {size : Nat} {v : Value} {xs : List Value} {l : NL} (h : w.ownsRow base e size v n xs) (hk : v.ownBlock = some k) (hm : MapL w b l) : k ≠ b := by
  rintro rfl
  obtain ⟨es, clock, h1, _⟩ := hm
  rcases h.2 with ⟨rfl, _⟩ | ⟨g', cap, cur, rfl, _, hh, _⟩
  · simp [Value.ownBlock] at hk
  · have : g' = k := by simpa [Value.ownBlock] using hk
    subst this
    rw [h1] at hh
    cases hh
theorem VStep.of_same {v : Nat} {w w' : World} {cs : Array Value} (hb : Blk w v 104 cs) (hb' : Blk w' v 104 cs) (f : Fr (VB w v) w w') : VStep v w w' :=
  ⟨f, fun k hk => by
    rcases hk with hk | ⟨cs2, hb2, hc⟩
    · exact .inl (.inl hk)
    · have h1 : w'.heap[v]? = _ := hb'
      have h2 : w'.heap[v]? = _ := hb2
      rw [h1] at h2
      injection h2 with h2
      injection h2 with h2
      subst h2
      exact .inl (.inr ⟨_, hb, hc⟩), fun s ⟨cs2, hb2, hc⟩ => ⟨cs, hb', by
    have h1 : w.heap[v]? = _ := hb
    have h2 : w.heap[v]? = _ := hb2
    rw [h1] at h2
    injection h2 with h2
    injection h2 with h2
    subst h2
    exact hc⟩⟩
section
variable {w w' : World} {v s mr ml : Nat} {L : List CV} {cv : Value} {rl ll : NL}
theorem ViewD.fr0 (h : ViewD w v L s mr ml cv rl ll) (f : Fr Nothing w w') : ViewD w' v L s mr ml cv rl ll :=
  ⟨h.blk.fr f (fun x => x), h.base.fr0 f, h.reads.fr f (fun x => x), h.last.fr f (fun x => x), own_fr h.calls f (fun _ _ x => x), h.idx, h.apart⟩
theorem ViewD.read (h : ViewD w v L s mr ml cv rl ll) (f : Fr (fun k => k = mr) w w') {rl' : NL} (hm : MapL w' mr rl') : ViewD w' v L s mr ml cv rl' ll ∧ VStep v w w' := by
  have hv : v ≠ mr := fun e => h.reads.not_cells (e ▸ h.blk)
  have hb := h.blk.fr f hv
  refine ⟨⟨hb, ?_, hm, h.last.fr f (fun e => h.apart e.symm), own_fr h.calls f (fun k hk e => own_not_map h.calls hk h.reads e), h.idx, h.apart⟩, VStep.of_same h.blk hb (f.mono fun k _ hk => .inr ⟨_, h.blk, .inl (by rw [hk]; rfl)⟩)⟩
  obtain ⟨a, h1, h2⟩ := h.base
  exact ⟨a, h1.fr f (fun e => h.reads.not_cells (e ▸ h1)), h2⟩
end

set_option maxRecDepth 100000 in
set_option maxHeartbeats 2000000 in
theorem read_any (c : CV) (v s mr ml : Nat) (cv : Value) (rl ll : NL) (L : List CV) (w : World) (h : ViewD w v L s mr ml cv rl ll) :
    Calls Tryz.prog 200 #[.pointer (some ⟨v, 0, none⟩), .agg c.cells.toArray] w (fun e w' => e = .returned (.tuple #[]) ∧ ∃ rl', ViewD w' v L s mr ml cv rl' ll ∧ VStep v w w') := by
  have qT := fun (w : World) (r : Option Nat) => run_eql_map_nil_sl (P := Tryz.prog) w 100 _ _ r und_reads
  have HV := Lib.hid h
  have hlt := h.blk.lt
  have HLT := Lib.hid hlt
  clear h hlt
  go_enter Tryz.func200, Tryz.ntmps200
  go_wp2_with (refine wpList_boxBlk rfl 238 (.tmp 1) rfl c.cells.toArray rfl ?_)
  intro w1 n1
  have V1 := Lib.hid (HV.out.fr0 n1.fr)
  have S1 := Lib.hid (VStep.of_fr0 HLT.out n1.fr)
  have NB := Lib.hid n1.blk
  clear n1 HLT
  generalize w.heap.size = gb at *
  have hc : w1.cell? ⟨v, 1, none⟩ = some (.map (some mr)) := V1.out.blk.cell 1
  go_upto_region 3 with fail
  refine wp_mid 7 (by kernel_rfl) (by kernel_rfl) ?_
  intro w2 f2
  have V2 := Lib.hid (V1.out.fr0 f2)
  have S2 := Lib.hid (S1.out.trans (VStep.of_fr0 V1.out.blk.lt f2))
  have NB2 := Lib.hid (Blk.fr NB.out f2 (fun x => x))
  clear f2 hc V1 S1 NB
  have hc : w2.cell? ⟨v, 1, none⟩ = some (.map (some mr)) := V2.out.blk.cell 1
  simp only [List.take_succ_cons, List.take_zero, List.drop_succ_cons, List.drop_zero]
  still_step
  still_step
  still_step
  still_step
  still_step
  refine still_loadc rfl _ _ rfl ⟨gb, 0, none⟩ rfl c.nm.cells (blk_at NB2.out 0 _ c.name_at) Tryz.underlying144 rfl infoName ?_
  refine still_load rfl _ _ rfl gb rfl NB2.out Tryz.underlying238 rfl infoCh ?_
  refine wpStill_nil ?_
  refine wpList_updateN rfl und_reads _ _ _ rfl (b := mr) (n := c.nm) (v := .agg c.cells.toArray) rfl rfl rfl V2.out.reads ?_
  intro w3 hm f3
  obtain ⟨V3, S3⟩ := V2.out.read f3 hm
  have HV3 := Lib.hid V3
  have HS3 := Lib.hid (S2.out.trans S3)
  clear V3 S3 f3 hm
  go_wp2
  refine wpStill_nil ?_
  go_wp2
  go_end0
  exact ⟨rfl, _, HV3.out, HS3.out⟩
end Go.Proofs.YtmpokappjogehaaGreatDoor

namespace Go.Proofs.YtmpokappjogehaaGreatDoor
open Go.RowKit

theorem wpList_load_g {P : Program} {ops : Array Oper} {rest : List Oper} {o : Oper} {a : Act} {w : World} {Q : Exit → Act → World → Prop} (ty : TypeId) (x : Operand) (ho : o.op = .load ty x) (ad : Addr) (hx : a.eval x = .pointer (some ad)) (cs : List Value) (d : TypeDesc)
    (hw : Region.wanted o (yielded ops a.tmps) = true) (hu : P.underlying ty = some d) (hd : d.isRow = true) (hi : (P.info? ty).map (·.size) = some cs.length) (hc : ∀ j v, cs[j]? = some v → w.cell? (ad.add j) = some v)
    (h : wpList P ops Q rest (a.put o.dst (.agg cs.toArray)) w) : wpList P ops Q (o :: rest) a w :=
  BigFrame.wpList_want hw fun _ hK => wp_load_add ty x ho ad hx cs d hc hu hd hi (hK _ _ h)
theorem okNm_zero {w w' : World} {n : NameV} {e : Ending} (hn : okNm n = true) (h : Checked w n e w') : e = .returned (.int .i64 0) ∧ Fr Nothing w w' := by
  obtain ⟨k, rfl, h1, h2⟩ := h
  rw [hn] at h1
  have := eq_of_beq h1
  subst this
  exact ⟨rfl, h2⟩
theorem still_lookupN {ops : Array Oper} {w : World} {Q : Act → Prop} {a : Act} {o : Oper} {rest : List Oper} (hg : o.guard = none) {mt el : TypeId} (hm : Tryz.prog.underlying mt = some (.map 144 el)) {z : Value} (hz : ∀ w, (zeroValue el).run Tryz.prog w = .ok z w)
    (m x : Operand) (ho : o.op = .lookup mt m x true) {b : Nat} {n : NameV} (hm' : a.eval m = .map (some b)) (hx : a.eval x = n.val) {l : NL} (hl : MapL w b l) (r : Option Value) (hr : findL l n = r)
    (h : wpStill Tryz.prog ops w Q rest (a.put o.dst (.tuple #[r.getD z, .bool r.isSome]))) : wpStill Tryz.prog ops w Q (o :: rest) a := by
  subst hr
  refine still_val hg ?_ h
  unfold execOp
  simp only [ho, hm', hx, Sem.run_bind, run_lookup_name hm hz hl n, Result.andThen_ok, Sem.run_pure]
theorem zvInt0 (w : World) : (zeroValue 3).run Tryz.prog w = .ok (.int .i64 0) w := by kernel_rfl
/-- The i-th call's cells. -/
theorem ViewD.at_ {w : World} {v s mr ml : Nat} {L : List CV} {cv : Value} {rl ll : NL} (h : ViewD w v L s mr ml cv rl ll) {i : Nat} {c : CV} (hi : L[i]? = some c) :
    ∃ ad cap, cv = .slice (some ad) L.length cap ∧ L.length ≤ cap ∧ ∀ j x, c.cells[j]? = some x → w.cell? ((ad.add (i * 7)).add j) = some x := by
  obtain ⟨A, m, cap, rfl, hm, hc⟩ := own_slice h.calls
  obtain rfl : m = L.length := hm
  obtain ⟨ad, d, rfl, hd, hx⟩ := CL.at_ ⟨Rd.of_own h.calls, rfl⟩ (k := i) (List.getElem?_eq_some_iff.1 hi).1
  rw [hi] at hd
  injection hd with hd
  subst hd
  exact ⟨ad, cap, rfl, hc, hx⟩

set_option maxRecDepth 100000 in
set_option maxHeartbeats 2000000 in
theorem GetD_any (n : NameV) (v s mr ml : Nat) (cv : Value) (rl ll : NL) (L : List CV) (w : World) (h : ViewD w v L s mr ml cv rl ll) (hU : UsaT w) (hn : okNm n = true) (hL : L.length ≤ 1048576) (ho : n.owner.size ≤ 1099511627776) (ht : n.text.size ≤ 1099511627776) :
    Calls Tryz.prog 101 #[.pointer (some ⟨v, 0, none⟩), .agg n.cells.toArray] w (fun e w' => e = .returned (.tuple #[.string (valL L n), .bool (hasL L n)]) ∧ (∃ rl', ViewD w' v L s mr ml cv rl' ll) ∧ VStep v w w') := by
  have HV := Lib.hid h
  have HU := Lib.hid hU
  have HLT := Lib.hid h.blk.lt
  have HIX := Lib.hid (h.idx n)
  clear h hU
  go_enter Tryz.func101, Tryz.ntmps101
  go_wp2_with (refine wpList_boxBlk rfl 144 (.tmp 1) rfl n.cells.toArray rfl ?_)
  intro w1 n1
  have V1 := Lib.hid (HV.out.fr0 n1.fr)
  have S1 := Lib.hid (VStep.of_fr0 HLT.out n1.fr)
  have U1 := Lib.hid (HU.out.fr0 n1.fr)
  have NB := Lib.hid n1.blk
  clear n1 HV HU HLT
  generalize w.heap.size = gb at *
  go_wp2_with (first
    | (refine wpList_load_g 144 (.tmp 3) rfl ⟨gb, 0, none⟩ rfl n.cells _ (by kernel_rfl) Tryz.underlying144 rfl infoName (blk_at NB.out 0 _ (fun j v h => by rw [Nat.zero_add, List.getElem?_toArray]; exact h)) ?_)
    | fail)
  refine (Check_any n w1 U1.out ho ht).mono ?_
  intro e w2 hc
  obtain ⟨rfl, f2⟩ := okNm_zero hn hc
  have V2 := Lib.hid (V1.out.fr0 f2)
  have S2 := Lib.hid (S1.out.trans (VStep.of_fr0 V1.out.blk.lt f2))
  have NB2 := Lib.hid (Blk.fr NB.out f2 (fun x => x))
  clear hc f2 V1 S1 NB U1
  go_upto_region 3 with fail
  refine wp_pure (by kernel_rfl) (by kernel_rfl) ?_
  intro w3 f3
  have V3 := Lib.hid (V2.out.fr0 f3)
  have S3 := Lib.hid (S2.out.trans (VStep.of_fr0 V2.out.blk.lt f3))
  have NB3 := Lib.hid (Blk.fr NB2.out f3 (fun x => x))
  clear f3 V2 S2 NB2
  have hc : w3.cell? ⟨v, 3, none⟩ = some (.map (some ml)) := V3.out.blk.cell 3
  still_step
  still_step
  still_step
  still_step
  refine still_load rfl _ _ rfl gb rfl NB3.out Tryz.underlying144 rfl infoName ?_
  cases hi : idxL L n with
  | some i =>
    obtain ⟨c, hc1, hc2⟩ := idxL_in hi
    have v1 : valL L n = c.value := by unfold valL lastC; rw [hi, Option.bind_some, hc1]
    have v2 : hasL L n = !c.absent := by unfold hasL lastC; rw [hi, Option.bind_some, hc1]
    have hil : i < L.length := (List.getElem?_eq_some_iff.1 hc1).1
    refine still_lookupN rfl und_last zvInt0 _ _ rfl (b := ml) (n := n) rfl rfl V3.out.last (some (.int .i64 (i : Int))) (by rw [HIX.out, hi]; rfl) ?_
    repeat still_step
    refine wpStill_nil ?_
    clear hc
    go_upto_region 5 with fail
    refine wp_pure (by kernel_rfl) (by kernel_rfl) ?_
    intro w4 f4
    have V4 := Lib.hid (V3.out.fr0 f4)
    have S4 := Lib.hid (S3.out.trans (VStep.of_fr0 V3.out.blk.lt f4))
    clear f4 V3 S3 NB3
    obtain ⟨ad, cap, rfl, hcap, hx⟩ := V4.out.at_ hc1
    have hc : w4.cell? ⟨v, 2, none⟩ = some (.slice (some ad) L.length cap) := V4.out.blk.cell 2
    have h5 : w4.cell? ⟨(ad.add (i * 7)).block, (ad.add (i * 7)).off + 5, none⟩ = some (.string c.value) := hx 5 _ rfl
    have h6 : w4.cell? ⟨(ad.add (i * 7)).block, (ad.add (i * 7)).off + 6, none⟩ = some (.bool c.absent) := hx 6 _ rfl
    have d1 : (0 : Int) ≤ (i : Int) := by omega
    have d2 : (i : Int) < (L.length : Int) := by omega
    clear hx hcap
    repeat still_step
    refine wpStill_nil ?_
    go_wp2
    go_ret2
    exact ⟨by rw [v1, v2]; rfl, ⟨_, V4.out⟩, S4.out⟩
  | none =>
    refine still_lookupN rfl und_last zvInt0 _ _ rfl (b := ml) (n := n) rfl rfl V3.out.last none (by rw [HIX.out, hi]; rfl) ?_
    repeat still_step
    refine wpStill_nil ?_
    have v1 : valL L n = ByteArray.empty := by unfold valL lastC; rw [hi]; rfl
    have v2 : hasL L n = false := by unfold hasL lastC; rw [hi]; rfl
    clear hc
    go_upto_region 6 with fail
    refine wp_mid 5 (by kernel_rfl) (by kernel_rfl) ?_
    intro w4 f4
    have V4 := Lib.hid (V3.out.fr0 f4)
    have S4 := Lib.hid (S3.out.trans (VStep.of_fr0 V3.out.blk.lt f4))
    have NB4 := Lib.hid (Blk.fr NB3.out f4 (fun x => x))
    clear f4 V3 S3 NB3
    have hc : w4.cell? ⟨v, 0, none⟩ = some (.pointer (some ⟨s, 0, none⟩)) := V4.out.blk.cell 0
    simp only [List.take_succ_cons, List.take_zero, List.drop_succ_cons, List.drop_zero]
    still_step
    still_step
    still_step
    still_step
    refine still_load rfl _ _ rfl gb rfl NB4.out Tryz.underlying144 rfl infoName ?_
    refine wpStill_nil ?_
    go_wp2_with fail
    refine (SGet_leaf n s w4 V4.out.base).mono ?_
    rintro e w5 ⟨rfl, f5⟩
    have V5 := Lib.hid (V4.out.fr0 f5)
    have S5 := Lib.hid (S4.out.trans (VStep.of_fr0 V4.out.blk.lt f5))
    have NB5 := Lib.hid (Blk.fr NB4.out f5 (fun x => x))
    clear f5 V4 S4 NB4 hc
    go_wp2
    repeat still_step
    refine wpStill_nil ?_
    have bC : Tryz.prog.built 238 [(0, .agg n.cells.toArray), (1, .string ByteArray.empty), (2, .bool true)] = some (CV.cells ⟨n, ByteArray.empty, true⟩).toArray := builtCh ⟨n, ByteArray.empty, true⟩
    have BC := Lib.hid bC
    clear bC
    go_wp2_with (refine wpList_load_add rfl 144 (.tmp 3) rfl ⟨gb, 0, none⟩ rfl n.cells _ (blk_at NB5.out 0 _ (fun j v h => by rw [Nat.zero_add, List.getElem?_toArray]; exact h)) Tryz.underlying144 rfl infoName (Held.go ?hk))
    unfold Held
    go_wp2_with (refine wpList_built rfl 238 _ rfl (CV.cells ⟨n, ByteArray.empty, true⟩).toArray _ (by simp only [List.map_toArray, List.map_cons, List.map_nil]; rfl) BC.out (Held.go ?hc))
    unfold Held
    go_wp2_with fail
    refine (read_any ⟨n, ByteArray.empty, true⟩ v s mr ml cv rl ll L w5 V5.out).mono ?_
    rintro e w6 ⟨rfl, rl', V6, S6⟩
    have HV6 := Lib.hid V6
    have HS6 := Lib.hid (S5.out.trans S6)
    clear V6 S6 V5 S5 NB5
    go_wp2
    go_ret2
    exact ⟨by rw [v1, v2]; rfl, ⟨_, HV6.out⟩, HS6.out⟩
theorem Get_any (n : NameV) (v : Nat) (L : List CV) (w : World) (h : ViewC w v L) (hU : UsaT w) (hn : okNm n = true) (hL : L.length ≤ 1048576) (ho : n.owner.size ≤ 1099511627776) (ht : n.text.size ≤ 1099511627776) :
    Calls Tryz.prog 101 #[.pointer (some ⟨v, 0, none⟩), .agg n.cells.toArray] w (fun e w' => e = .returned (.tuple #[.string (valL L n), .bool (hasL L n)]) ∧ ViewC w' v L ∧ VStep v w w') := by
  obtain ⟨s, mr, ml, cv, rl, ll, h⟩ := h
  refine (GetD_any n v s mr ml cv rl ll L w h hU hn hL ho ht).mono ?_
  rintro e w' ⟨h1, ⟨rl', h2⟩, h3⟩
  exact ⟨h1, ⟨_, _, _, _, _, _, h2⟩, h3⟩
end Go.Proofs.YtmpokappjogehaaGreatDoor

namespace Go.Proofs.YtmpokappjogehaaGreatDoor
open Go.RowKit

theorem ViewC.fr0 {w w' : World} {v : Nat} {L : List CV} (h : ViewC w v L) (f : Fr Nothing w w') : ViewC w' v L := by
  obtain ⟨s, mr, ml, cv, rl, ll, h⟩ := h
  exact ⟨s, mr, ml, cv, rl, ll, h.fr0 f⟩
theorem ViewC.lt {w : World} {v : Nat} {L : List CV} (h : ViewC w v L) : v < w.heap.size := by
  obtain ⟨s, mr, ml, cv, rl, ll, h⟩ := h
  exact h.blk.lt
theorem ViewC.step0 {w w' : World} {v : Nat} {L : List CV} (h : ViewC w v L) (f : Fr Nothing w w') : VStep v w w' := VStep.of_fr0 h.lt f

set_option maxRecDepth 100000 in
set_option maxHeartbeats 2000000 in
theorem Has_any (n : NameV) (v : Nat) (L : List CV) (w : World) (h : ViewC w v L) (hU : UsaT w) (hn : okNm n = true) (hL : L.length ≤ 1048576) (ho : n.owner.size ≤ 1099511627776) (ht : n.text.size ≤ 1099511627776) :
    Calls Tryz.prog 90 #[.pointer (some ⟨v, 0, none⟩), .agg n.cells.toArray] w (fun e w' => e = .returned (.bool (hasL L n)) ∧ ViewC w' v L ∧ VStep v w w') := by
  have HV := Lib.hid h
  have HU := Lib.hid hU
  clear h hU
  go_enter Tryz.func90, Tryz.ntmps90
  go_wp2_with (refine wpList_boxBlk rfl 144 (.tmp 1) rfl n.cells.toArray rfl ?_)
  intro w1 n1
  have V1 := Lib.hid (HV.out.fr0 n1.fr)
  have S1 := Lib.hid (HV.out.step0 n1.fr)
  have U1 := Lib.hid (HU.out.fr0 n1.fr)
  have NB := Lib.hid n1.blk
  clear n1 HV HU
  generalize w.heap.size = gb at *
  go_wp2_with (refine wpList_load_add rfl 144 (.tmp 3) rfl ⟨gb, 0, none⟩ rfl n.cells _ (blk_at NB.out 0 _ (fun j v h => by rw [Nat.zero_add, List.getElem?_toArray]; exact h)) Tryz.underlying144 rfl infoName (Held.go ?hk))
  unfold Held
  go_wp2_with fail
  refine (Get_any n v L w1 V1.out U1.out hn hL ho ht).mono ?_
  rintro e w3 ⟨rfl, V3, S3⟩
  have HV3 := Lib.hid V3
  have HS3 := Lib.hid (S1.out.trans S3)
  clear V3 S3 V1 S1 U1 NB
  generalize valL L n = x
  generalize hy : hasL L n = y
  go_wp2
  go_ret
  exact ⟨by rw [hy]; rfl, HV3.out, HS3.out⟩

theorem Mark_any (v : Nat) (L : List CV) (w : World) (h : ViewC w v L) : Calls Tryz.prog 134 #[.pointer (some ⟨v, 0, none⟩)] w (fun e w' => e = .returned (.int .i64 (L.length : Nat)) ∧ w = w') := by
  obtain ⟨s, mr, ml, cv, rl, ll, h⟩ := h
  obtain ⟨A, m, cap, rfl, hm, hc⟩ := own_slice h.calls
  obtain rfl : m = L.length := hm
  have hq : w.cell? ⟨v, 2, none⟩ = some (.slice A L.length cap) := h.blk.cell 2
  clear h hc
  go_enter Tryz.func134, Tryz.ntmps134
  go_wp2
  go_ret
  exact ⟨rfl, rfl⟩
end Go.Proofs.YtmpokappjogehaaGreatDoor

namespace Go.Proofs.YtmpokappjogehaaGreatDoor
open Go.RowKit

theorem wpList_makeMapN {P : Program} {ops : Array Oper} {rest : List Oper} {o : Oper} {a : Act} {w : World} {Q : Exit → Act → World → Prop} (hg : o.guard = none) (t : TypeId) (ho : o.op = .makeMap t none)
    (h : ∀ w', NewMapN w w' → wpList P ops Q rest (a.put o.dst (.map (some w.heap.size))) w') : wpList P ops Q (o :: rest) a w :=
  wpList_plain hg fun _ hK => wp_makeMapN t ho fun w' h1 => hK _ _ (h w' h1)
theorem builtView (s a b : Nat) : Tryz.prog.built 104 [(0, .pointer (some ⟨s, 0, none⟩)), (1, .map (some a)), (3, .map (some b))] = some #[.pointer (some ⟨s, 0, none⟩), .map (some a), .slice none 0 0, .map (some b)] := by kernel_rfl
theorem VB.of {w : World} {v k : Nat} {a b c d : Value} (hb : Blk w v 104 #[a, b, c, d]) (h : VB w v k) : k = v ∨ b = .map (some k) ∨ c.ownBlock = some k ∨ d = .map (some k) := by
  rcases h with h | ⟨cs, hb2, hc⟩
  · exact .inl h
  · have h1 : w.heap[v]? = _ := hb
    have h2 : w.heap[v]? = _ := hb2
    rw [h1] at h2
    injection h2 with h2
    injection h2 with h2
    subst h2
    rcases hc with h | ⟨u, h, h'⟩ | h
    · injection h with h
      exact .inr (.inl h)
    · injection h with h
      subst h
      exact .inr (.inr (.inl h'))
    · injection h with h
      exact .inr (.inr (.inr h))

set_option maxRecDepth 100000 in
set_option maxHeartbeats 2000000 in
theorem VNew_any (s : Nat) (w : World) (h : StH w s .leaf) :
    Calls Tryz.prog 12 #[.pointer (some ⟨s, 0, none⟩)] w (fun e w' => ∃ v, e = .returned (.pointer (some ⟨v, 0, none⟩)) ∧ ViewC w' v [] ∧ VBase w' v s ∧ Fr Nothing w w' ∧ ∀ k, VB w' v k → w.heap.size ≤ k) := by
  have HS := Lib.hid h
  clear h
  go_enter Tryz.func12, Tryz.ntmps12
  go_wp2_with (refine wpList_makeMapN rfl 100 rfl ?_)
  intro w1 m1
  have f1 := m1.fr
  have e1 := Lib.hid m1.size
  have M1 := Lib.hid m1.map
  have HS1 := Lib.hid (HS.out.fr0 f1)
  clear m1
  go_wp2_with (refine wpList_makeMapN rfl 101 rfl ?_)
  intro w2 m2
  have F2 := Lib.hid (f1.trans m2.fr)
  have e2 := Lib.hid m2.size
  have M12 := Lib.hid (M1.out.fr m2.fr (fun x => x))
  have M2 := Lib.hid m2.map
  have HS2 := Lib.hid (HS1.out.fr0 m2.fr)
  clear m2 f1 M1 HS1 HS
  have A12 : Hid (w.heap.size ≠ w1.heap.size) := by have e1 := e1.out; have e2 := e2.out; simp only [Hid]; omega
  have L2 : Hid (w.heap.size ≤ w1.heap.size) := by have e1 := e1.out; have e2 := e2.out; simp only [Hid]; omega
  have L3 : Hid (w.heap.size ≤ w2.heap.size) := by have e1 := e1.out; have e2 := e2.out; simp only [Hid]; omega
  clear e1 e2
  generalize ha : w.heap.size = ga at *
  generalize hb : w1.heap.size = gb at *
  have HA := Lib.hid ha
  clear ha hb
  have BV := Lib.hid (builtView s ga gb)
  go_wp2_with (refine wpList_boxBlk rfl 104 _ rfl #[.pointer (some ⟨s, 0, none⟩), .map (some ga), .slice none 0 0, .map (some gb)] rfl (Held.go ?hk))
  unfold Held
  intro w3 n3
  have F3 := Lib.hid (F2.out.trans n3.fr)
  have B3 := Lib.hid n3.blk
  have M13 := Lib.hid (M12.out.fr n3.fr (fun x => x))
  have M23 := Lib.hid (M2.out.fr n3.fr (fun x => x))
  have HS3 := Lib.hid (HS2.out.fr0 n3.fr)
  clear n3 M12 M2 HS2 F2 BV
  generalize w2.heap.size = gv at *
  go_wp2
  go_ret
  refine ⟨gv, rfl, ⟨s, ga, gb, .slice none 0 0, [], [], ⟨B3.out, HS3.out, M13.out, M23.out, ?_, fun n => rfl, A12.out⟩⟩, ⟨_, B3.out, rfl⟩, F3.out, fun k hk => ?_⟩
  · exact ⟨rfl, .inl ⟨rfl, rfl⟩⟩
  · rw [HA.out]
    rcases VB.of B3.out hk with rfl | h | h | h
    · exact L3.out
    · injection h with h; injection h with h; omega
    · simp [Value.ownBlock] at h
    · injection h with h; injection h with h; have := L2.out; omega
end Go.Proofs.YtmpokappjogehaaGreatDoor

namespace Go.Proofs.YtmpokappjogehaaGreatDoor
open Go.RowKit

/-- Whether a fact still holds when an operation's turn comes. -/
def aliveB (ops : Array Oper) (n : Nat) (kill : Nat → Nat → Bool) (i j : Nat) : Bool := (List.range n).all fun k => !kill k j || k == i || Region.waitsFor .any ops k i
/-- Whether no writer's turn has come when an operation's turn comes. -/
def quietB (ops : Array Oper) (n : Nat) (wr : Nat → Bool) (i : Nat) : Bool := (List.range n).all fun k => !wr k || k == i || Region.waitsFor .any ops k i
/-- The facts that an operation leaves. -/
def survK (kill : Nat → Bool) (u : Nat → Value) (w' w'' : World) : Nat → List Fact → Prop
  | _, [] => True
  | j, f :: r => (kill j = false → f.p (u j) w' → f.p (u j) w'') ∧ survK kill u w' w'' (j + 1) r
theorem survK.at_ {kill : Nat → Bool} {u : Nat → Value} {w' w'' : World} : ∀ {V : List Fact} {k : Nat}, survK kill u w' w'' k V → ∀ j, kill (k + j) = false → (V.getD j anyF).p (u (k + j)) w' → (V.getD j anyF).p (u (k + j)) w''
  | [], _, _, _, _, _ => trivial
  | _ :: _, _, h, 0, hk, hp => h.1 hk hp
  | _ :: r, k, h, j + 1, hk, hp => by
    have e : k + (j + 1) = k + 1 + j := by omega
    rw [e] at hk hp ⊢
    exact survK.at_ (V := r) h.2 j hk hp
def OneKl (b : Bool) (T : Nat → Prop) (w : World) (S : World → Prop) (a : Act) (d : Option Tmp) (w' : World) (p : Value → World → Prop) (a' : Act) (w'' : World) : Prop :=
  ∃ v, a' = a.put d v ∧ (match b with | true => Fr T w w'' ∧ S w'' | false => Fr Nothing w' w'') ∧ p v w''
def headKl (P : Program) (ops : Array Oper) (Q : Exit → Act → World → Prop) (n : Nat) (T : Nat → Prop) (wr : Nat → Bool) (kill : Nat → Nat → Bool) (w : World) (F : (Nat → Value) → Act) (V : List Fact) : Nat → List Oper → Prop
  | _, [] => True
  | i, o :: r => (∀ u w', Fr T w w' → (∀ j, (_ : Region.waitsFor .any ops i j = true := by kernel_rfl) → (_ : aliveB ops n kill i j = true := by kernel_rfl) → (V.getD j anyF).p (u j) w') → ((_ : quietB ops n wr i = true := by kernel_rfl) → Fr Nothing w w') →
      wpW P ops Q o (F u) w' (OneKl (wr i) T w (fun w'' => survK (fun j => kill i j || j == i || Region.waitsFor .any ops j i) u w' w'' 0 V) (F u) o.dst w' (V.getD i anyF).p)) ∧ headKl P ops Q n T wr kill w F V (i + 1) r
theorem headKl.at_ {P : Program} {ops : Array Oper} {Q : Exit → Act → World → Prop} {n : Nat} {T : Nat → Prop} {wr : Nat → Bool} {kill : Nat → Nat → Bool} {w : World} {F : (Nat → Value) → Act} {V : List Fact} :
    ∀ {l : List Oper} {k : Nat}, headKl P ops Q n T wr kill w F V k l → ∀ i o, l[i]? = some o → ∀ u w', Fr T w w' → (∀ j, Region.waitsFor .any ops (k + i) j = true → aliveB ops n kill (k + i) j = true → (V.getD j anyF).p (u j) w') → (quietB ops n wr (k + i) = true → Fr Nothing w w') →
      wpW P ops Q o (F u) w' (OneKl (wr (k + i)) T w (fun w'' => survK (fun j => kill (k + i) j || j == (k + i) || Region.waitsFor .any ops j (k + i)) u w' w'' 0 V) (F u) o.dst w' (V.getD (k + i) anyF).p)
  | [], _, _, _, _, h => by simp at h
  | o' :: r, k, h, 0, o, ho => by
    have : o' = o := by simpa using ho
    subst this
    exact h.1
  | o' :: r, k, h, i + 1, o, ho => by
    have := headKl.at_ h.2 i o (by simpa using ho)
    rw [show k + 1 + i = k + (i + 1) by omega] at this
    exact this
/-- A fact that need not be shown to stay. -/
theorem noS {b : Bool} {p : Prop} (hb : b = true := by kernel_rfl) : b = false → p := fun h => by rw [hb] at h; cases h
structure InvK (w : World) (n : Nat) (T : Nat → Prop) (wr : Nat → Bool) (kill : Nat → Nat → Bool) (V : List Fact) (d : Nat → Bool) (u : Nat → Value) (w' : World) : Prop where
  fr : Fr T w w'
  quiet : (∀ k, k < n → d k = true → wr k = false) → Fr Nothing w w'
  facts : ∀ j, j < n → d j = true → (∀ k, k < n → d k = true → kill k j = false) → (V.getD j anyF).p (u j) w'
theorem wp_kl {P : Program} {id : Nat} {Q : Exit → Act → World → Prop} {a : Act} {w : World} {l : List Oper} (n : Nat) (T : Nat → Prop) (wr : Nat → Bool) (kill : Nat → Nat → Bool) (V : List Fact)
    (hh : headKl P l.toArray Q n T wr kill w (fun u => puts ((l.take n).map (·.dst)) 0 u a) V 0 (l.take n))
    (ht : ∀ u w', Fr T w w' → (∀ j, j < n → (_ : ((List.range n).all fun k => !kill k j) = true := by kernel_rfl) → (V.getD j anyF).p (u j) w') → wpList P l.toArray Q (l.drop n) (puts ((l.take n).map (·.dst)) 0 u a) w')
    (hm : P.follows .mixedOrders = true := by kernel_rfl) (hg : growT l.toArray n = true := by kernel_rfl) : (Code.region id l.toArray true).wp P Q a w := by
  have ok := GrowT.of hg
  obtain ⟨u0, hu0⟩ := puts_start ((l.take n).map (·.dst)) 0 a
  refine wp_region_any hm ?_
  have inv0 : HeadInv .any l.toArray n (Array.replicate l.toArray.size false) :=
    ⟨by simp, fun j oj _ hl => (by rw [getD_replicate_false] at hl; cases hl), fun t _ ht => getD_in (by simpa using ht) (getD_replicate_false _ _)⟩
  have hc : countU (fun j => !(Array.replicate l.toArray.size false).getD j false) n = n := by
    have h : ∀ m, countU (fun j => !(Array.replicate l.toArray.size false).getD j false) m = m := by
      intro m
      induction m with
      | zero => rfl
      | succ m ih => rw [countU, ih, getD_replicate_false]; rfl
    exact h n
  have := inv_go (P := P) (Q := Q) (a := a) ok (InvK w n T wr kill V) ?_ ?_ n _ u0 w.drew inv0 hc ⟨(Fr.refl _ _).drew, fun _ => (Fr.refl _ _).drew, fun j _ h => (by rw [getD_replicate_false] at h; cases h)⟩
  · rw [show (l.toArray.toList.take n).map (·.dst) = (l.take n).map (·.dst) by simp, hu0, show n + (l.toArray.size - n) = l.toArray.size by have := ok.le; omega] at this
    exact this
  · intro i o hin ho d u w' hdi hclosed hwait hI
    have hol : (l.take n)[i]? = some o := by rw [List.getElem?_take, if_pos hin]; simpa using ho
    have hob := hh.at_ i o hol u w' hI.fr (fun j hj ha => by
      rw [Nat.zero_add] at hj ha
      refine hI.facts j (hwait j hj).2 (hwait j hj).1 (fun k hk hd => ?_)
      have h := List.all_eq_true.1 ha k (List.mem_range.2 hk)
      simp only [Bool.or_eq_true, Bool.not_eq_true', beq_iff_eq] at h
      rcases h with (h | h) | h
      · exact h
      · subst h
        rw [hdi] at hd
        cases hd
      · have := hclosed k i hd h
        rw [hdi] at this
        cases this) (fun hqb => by
      rw [Nat.zero_add] at hqb
      refine hI.quiet (fun k hk hd => ?_)
      have h := List.all_eq_true.1 hqb k (List.mem_range.2 hk)
      simp only [Bool.or_eq_true, Bool.not_eq_true', beq_iff_eq] at h
      rcases h with (h | h) | h
      · exact h
      · subst h
        rw [hdi] at hd
        cases hd
      · have := hclosed k i hd h
        rw [hdi] at this
        cases this)
    rw [Nat.zero_add] at hob
    have hdst : (l.toArray.toList.take n).map (·.dst) = (l.take n).map (·.dst) := by simp
    rw [hdst]
    refine wpW_mono ?_ hob
    rintro a' w'' ⟨v, rfl, hstep, hv⟩
    refine ⟨v, rfl, ?_⟩
    have upd : ∀ j, j ≠ i → updV u i v j = u j := fun j hj => by simp [updV, hj]
    have updi : updV u i v i = v := by simp [updV]
    have setne : ∀ j, j ≠ i → setB d i j = d j := fun j hj => by simp [setB, hj]
    have seti : setB d i i = true := by simp [setB]
    have old : ∀ j, j < n → j ≠ i → setB d i j = true → (∀ k, k < n → setB d i k = true → kill k j = false) → (V.getD j anyF).p (u j) w' := fun j hj hne hd hk =>
      hI.facts j hj (by rw [← setne j hne]; exact hd) (fun k hkn hkd => hk k hkn (by
        by_cases e : k = i
        · rw [e]; exact seti
        · rw [setne k e]; exact hkd))
    cases hwr : wr i
    · rw [hwr] at hstep
      refine ⟨hI.fr.trans (Fr.weak hstep), fun hno => (hI.quiet (fun k hk hd => hno k hk (by by_cases e : k = i <;> simp [setB, e, hd]))).trans hstep, fun j hj hd hk => ?_⟩
      by_cases e : j = i
      · subst e; rw [updi]; exact hv
      · rw [upd j e]
        exact (V.getD j anyF).st _ _ _ hstep (old j hj e hd hk)
    · rw [hwr] at hstep
      obtain ⟨hf, hs⟩ := hstep
      refine ⟨hf, fun hno => (by have := hno i hin seti; rw [hwr] at this; cases this), fun j hj hd hk => ?_⟩
      by_cases e : j = i
      · subst e; rw [updi]; exact hv
      · rw [upd j e]
        have := hs.at_ j (by
          simp only [Nat.zero_add]
          rw [hk i hin seti, Bool.false_or, Bool.or_eq_false_iff]
          refine ⟨beq_eq_false_iff_ne.2 e, ?_⟩
          cases hwf : Region.waitsFor .any l.toArray j i
          · rfl
          · have := hclosed j i (by rw [← setne j e]; exact hd) hwf
            rw [hdi] at this
            cases this)
        rw [Nat.zero_add] at this
        exact this (old j hj e hd hk)
  · intro d u w' hd hI
    have := ht u w' hI.fr (fun j hj hk => hI.facts j hj (hd j hj) (fun k hkn _ => by
      have h := List.all_eq_true.1 hk k (List.mem_range.2 hkn)
      simpa using h))
    simpa using this
end Go.Proofs.YtmpokappjogehaaGreatDoor

namespace Go.Proofs.YtmpokappjogehaaGreatDoor
open Go.RowKit

theorem CV_one2 (c : CV) : ∀ u ∈ c.cells, u.oneCell' = true := fun u hu => by
  have h := c.one
  rw [Array.all_eq_true_iff_forall_mem] at h
  exact h u (by simpa using hu)
set_option maxRecDepth 100000 in
set_option maxHeartbeats 4000000 in
theorem callD_any (c : CV) (v s mr ml : Nat) (cv : Value) (rl ll : NL) (L : List CV) (w : World) (h : ViewD w v L s mr ml cv rl ll) (hL : L.length ≤ 1048576) :
    Calls Tryz.prog 187 #[.pointer (some ⟨v, 0, none⟩), .agg c.cells.toArray] w (fun e w' => e = .returned (.tuple #[]) ∧ (∃ cv' ll', ViewD w' v (L ++ [c]) s mr ml cv' rl ll') ∧ VStep v w w') := by
  obtain ⟨ic, hic, hzc, hc1, hc2⟩ := info_parts zinfoCh
  have gc1 : Hid (¬ 1 * ic.size > 2 ^ 24) := by simp only [Hid]; rw [hc1]; omega
  have gc2 : Hid (¬ 1 * ic.size = 0) := by simp only [Hid]; rw [hc1]; omega
  have gc3 : Hid (∀ c : CV, Instr.fill (fun i => some (i * ic.size, ic.size)) ((Array.range (1 * ic.size)).map (zeroC.cells[· % zeroC.cells.size]!)) [(0, .agg c.cells.toArray)] = some c.cells.toArray) := fun c => by rw [hc1]; exact fill_seven _ _ rfl (by simp [zeroC, Value.cells])
  have qT := fun (w : World) (r : Option Nat) => run_eql_map_nil_sl (P := Tryz.prog) w 101 _ _ r und_last
  have HV := Lib.hid h
  have HLT := Lib.hid h.blk.lt
  have HC0 : Hid (∃ A cap, cv = .slice A L.length cap) := by
    obtain ⟨A, m, cap, e, hm, _⟩ := own_slice h.calls
    obtain rfl : m = L.length := hm
    exact ⟨A, cap, e⟩
  clear h
  obtain ⟨A0, cap0, rfl⟩ := HC0.out
  clear HC0
  go_enter Tryz.func187, Tryz.ntmps187
  go_wp2_with (refine wpList_boxBlk rfl 238 (.tmp 1) rfl c.cells.toArray rfl ?_)
  intro w1 n1
  have V1 := Lib.hid (HV.out.fr0 n1.fr)
  have F1 := Lib.hid n1.fr
  have NB := Lib.hid n1.blk
  clear n1
  generalize hgb : w.heap.size = gb at *
  have HGB := Lib.hid hgb
  clear hgb
  have hc : w1.cell? ⟨v, 3, none⟩ = some (.map (some ml)) := V1.out.blk.cell 3
  go_upto_region 3 with fail
  refine wp_mid 11 (by kernel_rfl) (by kernel_rfl) ?_
  intro w2 f2
  have V2 := Lib.hid (V1.out.fr0 f2)
  have F2 := Lib.hid (F1.out.trans f2)
  have NB2 := Lib.hid (Blk.fr NB.out f2 (fun x => x))
  clear f2 hc V1 F1 NB
  have hc : w2.cell? ⟨v, 3, none⟩ = some (.map (some ml)) := V2.out.blk.cell 3
  have hc2' : w2.cell? ⟨v, 2, none⟩ = some (.slice A0 L.length cap0) := V2.out.blk.cell 2
  simp only [List.take_succ_cons, List.take_zero, List.drop_succ_cons, List.drop_zero]
  still_step
  still_step
  still_step
  still_step
  still_step
  refine still_loadc rfl _ _ rfl ⟨gb, 0, none⟩ rfl c.nm.cells (blk_at NB2.out 0 _ c.name_at) Tryz.underlying144 rfl infoName ?_
  still_step
  still_step
  still_step
  still_step
  still_step
  refine wpStill_nil ?_
  refine wpList_updateN rfl und_last _ _ _ rfl (b := ml) (n := c.nm) (v := .int .i64 (L.length : Nat)) rfl rfl rfl V2.out.last ?_
  intro w3 hm f3
  have hvm : v ≠ ml := fun e => V2.out.last.not_cells (e ▸ V2.out.blk)
  have hgm : gb ≠ ml := fun e => V2.out.last.not_cells (e ▸ NB2.out)
  have hsm : StH w3 s .leaf := by
    obtain ⟨a, h1, h2⟩ := V2.out.base
    exact ⟨a, h1.fr f3 (fun e => V2.out.last.not_cells (e ▸ h1)), h2⟩
  have B3 := Lib.hid (V2.out.blk.fr f3 hvm)
  have R3 := Lib.hid (V2.out.reads.fr f3 V2.out.apart)
  have O3 := Lib.hid (own_fr V2.out.calls f3 (fun k hk e => own_not_map V2.out.calls hk V2.out.last e))
  have NB3 := Lib.hid (Blk.fr NB2.out f3 hgm)
  have M3 := Lib.hid hm
  have S3 := Lib.hid hsm
  have AP := Lib.hid V2.out.apart
  have IX := Lib.hid V2.out.idx
  have F3 : Hid (Fr (fun k => k = ml) w w3) := (F2.out.mono (fun _ _ h => h.elim)).then_ f3 (fun k _ h => h)
  clear hm f3 hvm hgm hsm hc hc2' V2 F2 NB2
  go_wp2
  refine wpStill_nil ?_
  go_upto_region 4 with fail
  refine wp_kl 8 (Rows1 (.slice A0 L.length cap0)) (fun i => i == 7) (fun i j => i == 7 && j == 6) [iS (.pointer (some ⟨v, 0, none⟩)), iS (.pointer (some ⟨v, 0, none⟩)), iS (.pointer (some ⟨v, 0, none⟩)), iS (.pointer (some ⟨v, 2, none⟩)), iS (.slice A0 L.length cap0), iS (.agg c.cells.toArray), ⟨fun zv zW => ∃ i : Nat, zv = .slice (some ⟨i, 0, none⟩) 1 1 ∧ Blk zW i 238 c.cells.toArray ∧ w3.heap.size ≤ i, fun _ _ _ f ⟨i, e, h, l⟩ => ⟨i, e, h.fr f (fun x => x), l⟩⟩, ⟨fun zv zW => Grew 238 7 w3 (.slice A0 L.length cap0) zW zv (L.length + 1) (L.flatMap CV.cells ++ c.cells), fun _ _ _ f h => ⟨own_fr h.own f (fun _ _ x => x), h.fr.then_ f (fun _ _ x => x.elim), h.lies⟩⟩] ?hxd ?_
  case hxd =>
    refine ⟨?xd0, ?xd1, ?xd2, ?xd3, ?xd4, ?xd5, ?xd6, ?xd7, trivial⟩
    all_goals intro u w' hf hR hq
    all_goals simp only [z1, z2, z3, z4, puts, Act.put, z5, z6, z7, Nat.reduceAdd, Nat.zero_add]
    case xd2 =>
      simp only [show u 1 = _ from hR 1]
      refine goS ?_
      go_simp
      exact ⟨_, rfl, Fr.refl _ _, rfl⟩
    case xd3 =>
      simp only [show u 2 = _ from hR 2]
      refine goS ?_
      go_simp
      exact ⟨_, rfl, Fr.refl _ _, rfl⟩
    case xd4 =>
      simp only [show u 3 = _ from hR 3]
      have hc : w'.cell? ⟨v, 2, none⟩ = some (.slice A0 L.length cap0) := (Blk.fr B3.out hq (fun x => x)).cell 2
      refine goS ?_
      go_simp
      exact ⟨_, rfl, Fr.refl _ _, rfl⟩
    case xd5 =>
      have hng : ¬ Rows1 (.slice A0 L.length cap0) gb := fun e => by
        have := own_lt HV.out.calls e
        rw [HGB.out] at this
        omega
      refine goS ?_
      exact wp_load_add _ _ rfl ⟨gb, 0, none⟩ rfl c.cells _ (blk_at (Blk.fr NB3.out hf hng) 0 _ (fun j v h => by rw [Nat.zero_add, List.getElem?_toArray]; exact h)) Tryz.underlying238 rfl infoCh ⟨_, rfl, Fr.refl _ _, rfl⟩
    case xd6 =>
      simp only [show u 5 = _ from hR 5]
      refine goS ?_
      refine wp_buildSlice 102 238 1 #[(0, .tmp 29)] rfl c.cells.toArray ic zeroC Tryz.underlying102 hic hzc gc1.out gc2.out ?_ ?_
      · simp only [List.map_toArray, List.map_cons, List.map_nil]
        exact gc3.out c
      · exact ⟨_, rfl, (Fr.refl _ _).alloc _, ⟨w'.heap.size, rfl, Blk.new _ _ _, hf.size⟩⟩
    case xd7 =>
      obtain ⟨i6, e6, h6, l6⟩ := hR 6
      simp only [show u 4 = _ from hR 4, e6]
      have hq0 : Fr Nothing w3 w' := hq
      refine goS ?_
      refine wp_app _ (.tmp 28) (.tmp 30) 102 rfl 238 ic zeroC 7 80 Tryz.underlying102 hic hzc hc1 hc2 rfl (by decide) _ _ _ rfl (own_fr O3.out hq0 (fun _ _ x => x)) (fun _ => True) (some ⟨i6, 0, none⟩) 1 1 c.cells rfl ⟨rfl, fun _ => ⟨_, rfl, trivial, fun jj x hx => by rw [Addr.add_mid, Nat.zero_add, h6.cell, List.getElem?_toArray]; exact hx⟩⟩ (CV_one2 c) (by omega) (by decide) ?_
      intro v8 w8 hG
      refine ⟨_, rfl, ⟨hf.then_ hG.fr (fun k hk h => h), ?_⟩, ⟨hG.own, hf.then_ hG.fr (fun k hk h => h), fun k hk => (hG.lies k hk).elim .inl (fun h => .inr (Nat.le_trans hf.size h))⟩⟩
      exact ⟨fun _ h => h, fun _ h => h, fun _ h => h, fun _ h => h, fun _ h => h, fun _ h => h, noS, noS, trivial⟩
    all_goals
      refine goS ?_
      go_simp
      exact ⟨_, rfl, Fr.refl _ _, rfl⟩
  intro u w' hf hR
  have h0 : u 0 = _ := hR 0 (by omega)
  have h7 : Grew 238 7 w3 (.slice A0 L.length cap0) w' (u 7) (L.length + 1) (L.flatMap CV.cells ++ c.cells) := hR 7 (by omega)
  obtain ⟨A9, n9, c9, e9, H9, H9c⟩ := own_slice h7.own
  rw [e9] at h7
  simp only [z1, z2, z3, z4, puts, Act.put, z5, z6, z7, z8, z9, Nat.reduceAdd, Nat.zero_add, h0]
  clear hR
  simp only [e9]
  have hne : ∀ k, (Value.slice A0 L.length cap0).ownBlock = some k → k ≠ v := fun k hk e => own_blk_ne O3.out B3.out (by decide) (e ▸ hk)
  have hng : ∀ k, (Value.slice A0 L.length cap0).ownBlock = some k → k ≠ mr := fun k hk e => own_not_map O3.out hk R3.out e
  have hnl : ∀ k, (Value.slice A0 L.length cap0).ownBlock = some k → k ≠ ml := fun k hk e => own_not_map O3.out hk M3.out e
  have B4 := Lib.hid (Blk.fr B3.out hf (fun e => hne v e rfl))
  have R4 := Lib.hid (R3.out.fr hf (fun e => hng mr e rfl))
  have M4 := Lib.hid (M3.out.fr hf (fun e => hnl ml e rfl))
  have hcc : w'.cell? ⟨v, 2, none⟩ = some (.slice A0 L.length cap0) := B4.out.cell 2
  have hff : w'.frozen? ⟨v, 2, none⟩ = false := B4.out.frozen 2
  have G7 := Lib.hid h7
  have HF := Lib.hid hf
  clear h7 hf hne hng hnl
  go_wp2
  go_end0
  have F5 : Fr (fun k => k = v) w' (w'.setCell ⟨v, 2, none⟩ (.slice A9 n9 c9)) := (Fr.refl (fun k => k = v) w').setCell (fun _ => rfl) _
  have B5 : Blk (w'.setCell ⟨v, 2, none⟩ (.slice A9 n9 c9)) v 104 #[.pointer (some ⟨s, 0, none⟩), .map (some mr), .slice A9 n9 c9, .map (some ml)] := by simpa using B4.out.set_ 2 (.slice A9 n9 c9)
  have hl : (L ++ [c]).length = L.length + 1 := by rw [List.length_append]; rfl
  refine ⟨rfl, ⟨.slice A9 n9 c9, putL ll c.nm (.int .i64 (L.length : Nat)), ⟨B5, ?_, R4.out.fr F5 (fun e => by subst e; exact R4.out.not_cells B4.out), M4.out.fr F5 (fun e => by subst e; exact M4.out.not_cells B4.out), ?_, fun n => ?_, AP.out⟩⟩, ?_, fun k hk => ?_, fun s2 ⟨cs2, hb2, hc⟩ => ⟨_, B5, ?_⟩⟩
  · obtain ⟨a, h1, h2⟩ := S3.out
    have h4 := h1.fr HF.out (fun e => own_blk_ne O3.out h1 (by decide) e)
    refine ⟨a, h4.fr F5 (fun e => ?_), h2⟩
    subst e
    have x1 : w'.heap[s]? = _ := h4
    have x2 : w'.heap[s]? = _ := B4.out
    rw [x1] at x2
    simp at x2
  · rw [hl, List.flatMap_append]
    have h := own_fr G7.out.own F5 (fun k hk e => own_blk_ne G7.out.own B4.out (by decide) (e ▸ hk))
    simpa using h
  · rw [findL_put, idxL_snoc]
    by_cases e : c.nm = n
    · rw [if_pos e, if_pos e]; rfl
    · rw [if_neg e, if_neg e]; exact IX.out n
  · refine ((F3.out.mono (fun k _ hk => ?_)).then_ HF.out (fun k _ hk => ?_)).then_ F5 (fun k _ hk => .inl hk)
    · exact .inr ⟨_, HV.out.blk, .inr (.inr (by rw [hk]; rfl))⟩
    · exact .inr ⟨_, HV.out.blk, .inr (.inl ⟨_, rfl, hk⟩)⟩
  · rcases VB.of B5 hk with rfl | h | h | h
    · exact .inl (.inl rfl)
    · exact .inl (.inr ⟨_, HV.out.blk, .inl (by rw [← h]; rfl)⟩)
    · rcases G7.out.lies k h with h | h
      · exact .inl (.inr ⟨_, HV.out.blk, .inr (.inl ⟨_, rfl, h⟩)⟩)
      · exact .inr (Nat.le_trans F3.out.size h)
    · exact .inl (.inr ⟨_, HV.out.blk, .inr (.inr (by rw [← h]; rfl))⟩)
  · have h1 : w.heap[v]? = _ := HV.out.blk
    have h2 : w.heap[v]? = _ := hb2
    rw [h1] at h2
    injection h2 with h2
    injection h2 with h2
    subst h2
    exact hc
theorem call_any (c : CV) (v : Nat) (L : List CV) (w : World) (h : ViewC w v L) (hL : L.length ≤ 1048576) :
    Calls Tryz.prog 187 #[.pointer (some ⟨v, 0, none⟩), .agg c.cells.toArray] w (fun e w' => e = .returned (.tuple #[]) ∧ ViewC w' v (L ++ [c]) ∧ VStep v w w') := by
  obtain ⟨s, mr, ml, cv, rl, ll, h⟩ := h
  refine (callD_any c v s mr ml cv rl ll L w h hL).mono ?_
  rintro e w' ⟨h1, ⟨cv', ll', h2⟩, h3⟩
  exact ⟨h1, ⟨_, _, _, _, _, _, h2⟩, h3⟩
end Go.Proofs.YtmpokappjogehaaGreatDoor

namespace Go.Proofs.YtmpokappjogehaaGreatDoor
open Go.RowKit

set_option maxRecDepth 100000 in
set_option maxHeartbeats 2000000 in
theorem SetD_any (n : NameV) (x : ByteArray) (v s mr ml : Nat) (cv : Value) (rl ll : NL) (L : List CV) (w : World) (h : ViewD w v L s mr ml cv rl ll) (hU : UsaT w) (hn : okNm n = true) (hx : x.size ≤ 65536) (hL : L.length ≤ 1048576) (ho : n.owner.size ≤ 1099511627776) (ht : n.text.size ≤ 1099511627776) :
    Calls Tryz.prog 93 #[.pointer (some ⟨v, 0, none⟩), .agg n.cells.toArray, .string x] w (fun e w' => e = .returned (.int .i64 0) ∧ (∃ cv' ll', ViewD w' v (L ++ [⟨n, x, false⟩]) s mr ml cv' rl ll') ∧ VStep v w w') := by
  have HV := Lib.hid h
  have HU := Lib.hid hU
  clear h hU
  go_enter Tryz.func93, Tryz.ntmps93
  go_wp2_with (refine wpList_boxBlk rfl 144 (.tmp 1) rfl n.cells.toArray rfl ?_)
  intro w1 n1
  have V1 := Lib.hid (HV.out.fr0 n1.fr)
  have S1 := Lib.hid (VStep.of_fr0 HV.out.blk.lt n1.fr)
  have U1 := Lib.hid (HU.out.fr0 n1.fr)
  have NB := Lib.hid n1.blk
  clear n1 HV HU
  generalize w.heap.size = gb at *
  go_wp2_with (refine wpList_load_add rfl 144 (.tmp 4) rfl ⟨gb, 0, none⟩ rfl n.cells _ (blk_at NB.out 0 _ (fun j v h => by rw [Nat.zero_add, List.getElem?_toArray]; exact h)) Tryz.underlying144 rfl infoName (Held.go ?hk))
  unfold Held
  go_wp2_with fail
  refine (Check_any n w1 U1.out ho ht).mono ?_
  intro e w2 hc
  obtain ⟨rfl, f2⟩ := okNm_zero hn hc
  have V2 := Lib.hid (V1.out.fr0 f2)
  have S2 := Lib.hid (S1.out.trans (VStep.of_fr0 V1.out.blk.lt f2))
  have NB2 := Lib.hid (Blk.fr NB.out f2 (fun x => x))
  clear hc f2 V1 S1 NB U1
  have d1 : ¬ (65536 : Int) < (x.size : Int) := by omega
  have d2 : decide ((65536 : Int) < (x.size : Int)) = false := decide_eq_false d1
  have bC : Tryz.prog.built 238 [(0, .agg n.cells.toArray), (1, .string x)] = some (CV.cells ⟨n, x, false⟩).toArray := by
    obtain ⟨k, o, m, i, t⟩ := n
    kernel_rfl
  have BC := Lib.hid bC
  clear bC
  go_wp2_with (refine wpList_load_add rfl 144 (.tmp 4) rfl ⟨gb, 0, none⟩ rfl n.cells _ (blk_at NB2.out 0 _ (fun j v h => by rw [Nat.zero_add, List.getElem?_toArray]; exact h)) Tryz.underlying144 rfl infoName (Held.go ?hk2))
  unfold Held
  go_wp2_with (refine wpList_built rfl 238 _ rfl (CV.cells ⟨n, x, false⟩).toArray _ (by simp only [List.map_toArray, List.map_cons, List.map_nil]; rfl) BC.out (Held.go ?hc))
  unfold Held
  go_wp2_with fail
  refine (callD_any ⟨n, x, false⟩ v s mr ml cv rl ll L w2 V2.out hL).mono ?_
  rintro e w3 ⟨rfl, V3, S3⟩
  have HV3 := Lib.hid V3
  have HS3 := Lib.hid (S2.out.trans S3)
  clear V3 S3 V2 S2 NB2
  go_wp2
  go_ret
  exact ⟨rfl, HV3.out, HS3.out⟩
theorem Set_any (n : NameV) (x : ByteArray) (v : Nat) (L : List CV) (w : World) (h : ViewC w v L) (hU : UsaT w) (hn : okNm n = true) (hx : x.size ≤ 65536) (hL : L.length ≤ 1048576) (ho : n.owner.size ≤ 1099511627776) (ht : n.text.size ≤ 1099511627776) :
    Calls Tryz.prog 93 #[.pointer (some ⟨v, 0, none⟩), .agg n.cells.toArray, .string x] w (fun e w' => e = .returned (.int .i64 0) ∧ ViewC w' v (L ++ [⟨n, x, false⟩]) ∧ VStep v w w') := by
  obtain ⟨s, mr, ml, cv, rl, ll, h⟩ := h
  refine (SetD_any n x v s mr ml cv rl ll L w h hU hn hx hL ho ht).mono ?_
  rintro e w' ⟨h1, ⟨cv', ll', h2⟩, h3⟩
  exact ⟨h1, ⟨_, _, _, _, _, _, h2⟩, h3⟩
end Go.Proofs.YtmpokappjogehaaGreatDoor
