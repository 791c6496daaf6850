/- Steps of the proof of LawPipesLoseNothing: contracts of the functions that the law reaches, for every world that holds what each of them asks. -/
import Derived.Test.YtmpokappjogehaaGreatDoorQAZ
set_option linter.unusedVariables false
set_option linter.unusedSimpArgs false
namespace Go.Proofs.YtmpokappjogehaaGreatDoor
open Go.RowKit

theorem equal_pipe (a b : PipeV) (w : World) : (binOp .eql 148 (.agg a.cells.toArray) (.agg b.cells.toArray)).run Tryz.prog w = .ok (.bool (decide (a = b))) w := by
  by_cases h : a = b
  · subst h
    rw [decide_eq_true rfl]
    obtain ⟨k, o, n, i⟩ := a
    simp only [PipeV.cells]
    go_simp
  · rw [decide_eq_false h]
    obtain ⟨k, o, n, i⟩ := a
    obtain ⟨k', o', n', i'⟩ := b
    simp only [PipeV.cells]
    go_simp
    intro h1 h2 h3 h4
    exact h (by rw [show k = k' by omega, show o = o' by omega, show n = n' by omega, toList_inj h4])

theorem ViewC.store {w w' : World} {v g : Nat} {L : List CV} (h : ViewC w v L) (f : Fr (fun k => k = g) w w') (l : Loc w v g) : ViewC w' v L := h.keepT f (fun k hk => by have e' : k = g := hk; rw [e']; exact l)
theorem VSt.store {T : Nat → Prop} {w w1 w' : World} {v g : Nat} {L : List CV} (s : VSt T v w w1) (h : ViewC w1 v L) (f : Fr (fun k => k = g) w1 w') (l : Loc w1 v g) (ht : T g) : VSt T v w w' :=
  s.trans ((VSt.of_fr (T := fun k => k = g) h f (fun k hk => by have e' : k = g := hk; rw [e']; exact l)).weakT (fun k hk => by have e' : k = g := hk; rw [e']; exact ht))
theorem Loc.store {w w' : World} {v g k : Nat} {L : List CV} (q : Loc w v k) (h : ViewC w v L) (f : Fr (fun k => k = g) w w') (l : Loc w v g) : Loc w' v k := q.stT (VSt.of_fr (T := fun k => k = g) h f (fun k hk => by have e' : k = g := hk; rw [e']; exact l))
theorem UsaT.keep {w w' : World} {T : Nat → Prop} (h : UsaT w) (f : Fr T w w') (h0 : ¬ T 0) : UsaT w' := ⟨fun k u hk j v hv => f.cellSome (h.row k u hk j v hv) h0⟩
theorem UsaT.pos {w : World} (h : UsaT w) : 0 < w.heap.size := by
  have h1 := h.clock 0 _ rfl
  rcases Nat.eq_zero_or_pos w.heap.size with h2 | h2
  · exfalso
    have h3 : w.heap[0]? = none := Array.getElem?_eq_none (by rw [h2]; exact Nat.zero_le _)
    simp [World.cell?, h3] at h1
  · exact h2
theorem VSt.usa {T : Nat → Prop} {w w' : World} {v : Nat} (s : VSt T v w w') (h : UsaT w) (h0 : ¬ VB w v 0) (h1 : ¬ T 0) : UsaT w' := h.keep s.fr (fun e => e.elim h0 h1)

theorem wp_binAgg1 {P : Program} {op : Oper} {a : Act} {w : World} {K : Act → World → Prop} {Q : Exit → Act → World → Prop} (o : BinOp) (t : TypeId) (x y : Operand) (ty : TypeId) (ho : op.op = .binOp o t x y ty)
    (xs ys : Array Value) (hx : a.eval x = .agg xs) (hy : a.eval y = .agg ys) (hg : P.eqGuardType P.depth t = false)
    (v : Value) (hr : (binOp o t (.agg xs) (.agg ys)).run P w = .ok v w) (h : K (a.put op.dst v) w) : op.wp P a w K Q := by
  have he := run_eqGuard_agg (P := P) (w := w) o t x y xs ys hg
  unfold Oper.wp execOp
  simp only [ho, hx, hy, Sem.run_bind, he, hr, Result.andThen_ok]
  exact h

/-- What a change of a pipe answers. -/
structure PChanged (T : Nat → Prop) (R : World → Prop) (p p' : PipeV) (b : BirthV) (code : Int) (v : Nat) (L : List CV) (w : World) (e : Ending) (w' : World) : Prop where
  ret : e = .returned (.int .i64 code)
  view : ViewC w' v (if code = 0 ∧ p ≠ p' then L ++ [⟨nBirth 11 b, ⟨(encP p').toArray⟩, false⟩] else L)
  st : VSt (fun k => T k ∨ w.heap.size ≤ k) v w w'
  r : R w'
set_option maxRecDepth 100000 in
set_option maxHeartbeats 4000000 in
theorem PChange_any (p p' : PipeV) (hp : okPipe p) (b : BirthV) (v : Nat) (L : List CV) (w : World) (h : ViewC w v L) (hU : UsaT w) (hU0 : ¬ VB w v 0) (hb : okBirth b = true) (hn : okNm (nBirth 11 b) = true) (hs : b.maker.size ≤ 1099511627776) (hL : L.length ≤ 1048576)
    (hv : valL L (nBirth 11 b) = ⟨(encP p).toArray⟩) (hh : hasL L (nBirth 11 b) = true) (fo : Nat) (cap : Array Value) (code : Int) (hcall : ∀ args w, (callFunc fo args).run Tryz.prog w = .ok (.enter fo args) w)
    (T : Nat → Prop) (hT : ∀ k, T k → Loc w v k) (hT0 : ¬ T 0) (R : World → Prop) (hR : ∀ A B, R A → Fr (fun k => VB w v k ∨ w.heap.size ≤ k) A B → R B)
    (hop : ∀ W g, w.heap.size ≤ g → Fr (fun k => VB w v k ∨ w.heap.size ≤ k) w W → Blk W g 148 p.cells.toArray → Calls Tryz.prog fo (#[.pointer (some ⟨g, 0, none⟩)] ++ cap) W (fun e W' => e = .returned (.int .i64 code) ∧ Blk W' g 148 p'.cells.toArray ∧ Fr (fun k => k = g ∨ T k) W W' ∧ R W'))
    (hok : code = 0 → okPipe p') :
    Calls Tryz.prog 119 #[.pointer (some ⟨v, 0, none⟩), .agg b.cells.toArray, .int .i64 (p.epoch : Nat), .func (.func fo) #[] cap] w (PChanged T R p p' b code v L w) := by
  have CN : Hid (∀ w, Calls Tryz.prog 91 #[.agg b.cells.toArray] w (Same' w (.agg (nBirth 11 b).cells.toArray))) := fun w => OfPipe_any b w
  have CG : Hid (∀ w, ViewC w v L → UsaT w → Calls Tryz.prog 222 #[.pointer (some ⟨v, 0, none⟩), .agg b.cells.toArray, .int .i64 (p.epoch : Nat)] w (fun e w' => e = .returned (.tuple #[.agg p.cells.toArray, .int .i64 0]) ∧ ViewC w' v L ∧ VStep v w w')) :=
    fun w h1 h2 => PGet_any p hp b v L w h1 h2 hb hn hs hL hv hh
  have CE : Hid (code = 0 → ∀ w, Calls Tryz.prog 92 #[.agg p'.cells.toArray] w (Same' w (.tuple #[.string ⟨(encP p').toArray⟩, .int .i64 0]))) := fun hc w => PEncode_any p' (hok hc) w
  have HSZ : Hid (code = 0 → (⟨(encP p').toArray⟩ : ByteArray).size ≤ 65536) := fun hc => by
    obtain ⟨_, _, _, _, h5⟩ := hok hc
    show (encP p').length ≤ _
    simp only [encP, textB, List.length_append, strL_length, List.length_nil]
    have := enc_length p'.epoch
    have := enc_length p'.readers
    have := enc_length p'.writers
    have := enc_length p'.bytes.size
    omega
  have CS : Hid (code = 0 → ∀ w, ViewC w v L → UsaT w → Calls Tryz.prog 93 #[.pointer (some ⟨v, 0, none⟩), .agg (nBirth 11 b).cells.toArray, .string ⟨(encP p').toArray⟩] w (fun e w' => e = .returned (.int .i64 0) ∧ ViewC w' v (L ++ [⟨nBirth 11 b, ⟨(encP p').toArray⟩, false⟩]) ∧ VStep v w w')) :=
    fun hc w h1 h2 => Set_any (nBirth 11 b) _ v L w h1 h2 hn (HSZ.out hc) hL hs (show (0 : Nat) ≤ _ from Nat.zero_le _)
  have OK' : Hid (code = 0 → p'.readers ≠ 0 ∨ p'.writers ≠ 0) := fun hc => (hok hc).2.2.2.1
  have HV := Lib.hid h
  have HU := Lib.hid hU
  have HT := Lib.hid hT
  have HT0 : Hid (¬ VB w v 0 ∧ ¬ T 0) := ⟨hU0, hT0⟩
  have HR := Lib.hid hR
  have HOP := Lib.hid hop
  have HCALL := Lib.hid hcall
  have O : Hid (p.cells.toArray.all (·.oneCell') = true) := pipe_one p
  have EQ : Hid (∀ w, (binOp .eql 148 (.agg p'.cells.toArray) (.agg p.cells.toArray)).run Tryz.prog w = .ok (.bool (decide (p' = p))) w) := fun w => equal_pipe p' p w
  clear h hU hv hh hT hR hop hcall hok hU0 hT0
  obtain ⟨nm, hnm⟩ : ∃ nm, nm = nBirth 11 b := ⟨_, rfl⟩
  obtain ⟨ss, hss⟩ : ∃ ss : ByteArray, ss = ⟨(encP p').toArray⟩ := ⟨_, rfl⟩
  have PC : Hid (∀ e w', e = .returned (.int .i64 code) → ViewC w' v (if code = 0 ∧ p ≠ p' then L ++ [⟨nm, ss, false⟩] else L) → VSt (fun k => T k ∨ w.heap.size ≤ k) v w w' → R w' → PChanged T R p p' b code v L w e w') := fun e w' h1 h2 h3 h4 => ⟨h1, by rw [← hnm, ← hss]; exact h2, h3, h4⟩
  rw [← hnm] at CN CS hn
  rw [← hss] at CE CS HSZ
  clear hnm hss
  generalize PChanged T R p p' b code v L w = PP at *
  have I : Hid ((Tryz.prog.info? 148).map (·.size) = some p.cells.toArray.size) := infoPipe
  go_enter Tryz.func119, Tryz.ntmps119
  go_wp2_with (refine wpList_boxBlk rfl 48 (.tmp 1) rfl b.cells.toArray rfl ?_)
  intro w0 n0
  have F0 := Lib.hid n0.fr
  have B0 := Lib.hid n0.blk
  have LB : Hid (Loc w0 v w.heap.size ∧ w.heap.size ≤ w.heap.size) := ⟨Loc.new HV.out n0.fr (Nat.le_refl _) n0.blk.lt, Nat.le_refl _⟩
  clear n0
  obtain ⟨gb, hgb⟩ : ∃ gb, gb = w.heap.size := ⟨_, rfl⟩
  have HGB : Hid (w.heap.size ≤ gb) := Nat.le_of_eq hgb.symm
  rw [← hgb] at B0 ⊢
  have LB : Hid (Loc w0 v gb) := by rw [hgb]; exact LB.out.1
  clear hgb
  go_wp2_with (refine wpList_load_add rfl 48 (.tmp 5) rfl ⟨gb, 0, none⟩ rfl b.cells _ (blk_at B0.out 0 _ (fun j v h => by rw [Nat.zero_add, List.getElem?_toArray]; exact h)) Tryz.underlying48 rfl infoBirth (Held.go ?hk1))
  unfold Held
  go_wp2_with fail
  refine (CG.out w0 (HV.out.fr0 F0.out) (HU.out.fr0 F0.out)).mono ?_
  rintro e w1 ⟨rfl, V1, S1⟩
  have HV1 := Lib.hid V1
  have HS1 := Lib.hid ((HV.out.step0 F0.out).trans S1)
  have B1 := Lib.hid (S1.blk B0.out LB.out.far)
  have LB1 := Lib.hid (LB.out.step S1)
  clear V1 S1 B0 LB F0
  go_wp2_with (refine wpList_allocBlk rfl 148 rfl pipeZ zvPipe #[.int .i64 0, .int .i64 0, .int .i64 0, .string ByteArray.empty] rfl ?_)
  intro w2 n2
  have L2 : Hid (Loc w2 v w1.heap.size) := Loc.new HV1.out n2.fr (Nat.le_refl _) n2.blk.lt
  have HV2 := Lib.hid (HV1.out.fr0 n2.fr)
  have S2 : Hid (VSt (fun k => w.heap.size ≤ k) v w w2) := (HS1.out.trans (HV1.out.step0 n2.fr)).st
  have B2 := Lib.hid (B1.out.fr n2.fr (fun x => x))
  have LB2 := Lib.hid (LB1.out.step (HV1.out.step0 n2.fr))
  have P2 := Lib.hid n2.blk
  have G2 : Hid (w.heap.size ≤ w1.heap.size ∧ gb ≠ w1.heap.size) := ⟨HS1.out.fr.size, by have := B1.out.lt; omega⟩
  clear n2 HV1 HS1 B1 LB1
  obtain ⟨gp, hgp⟩ : ∃ gp, gp = w1.heap.size := ⟨_, rfl⟩
  rw [← hgp] at L2 P2 G2 ⊢
  clear hgp
  have Z : Hid ((#[.int .i64 0, .int .i64 0, .int .i64 0, .string ByteArray.empty] : Array Value).size = p.cells.toArray.size) := rfl
  go_wp2_with (refine wpList_storeBlk rfl 148 (.tmp 9) _ rfl gp p.cells.toArray rfl rfl _ _ P2.out I.out Z.out O.out ?_)
  intro w3 b3 f3
  have P3 := Lib.hid b3
  have HV3 := Lib.hid (HV2.out.store f3 L2.out)
  have S3 := Lib.hid (S2.out.store HV2.out f3 L2.out G2.out.1)
  have L3 := Lib.hid (L2.out.store HV2.out f3 L2.out)
  have LB3 := Lib.hid (LB2.out.store HV2.out f3 L2.out)
  have B3 := Lib.hid (B2.out.fr f3 G2.out.2)
  clear b3 f3 HV2 S2 L2 LB2 B2 P2
  go_wp2_with (refine wpList_load_add rfl 148 (.tmp 9) rfl ⟨gp, 0, none⟩ rfl p.cells _ (blk_at P3.out 0 _ (fun j v h => by rw [Nat.zero_add, List.getElem?_toArray]; exact h)) Tryz.underlying148 rfl infoPipe (Held.go ?hk3))
  unfold Held
  go_wp2_with (refine wpList_allocBlk rfl 148 rfl pipeZ zvPipe #[.int .i64 0, .int .i64 0, .int .i64 0, .string ByteArray.empty] rfl ?_)
  intro w4 n4
  have L4 : Hid (Loc w4 v w3.heap.size) := Loc.new HV3.out n4.fr (Nat.le_refl _) n4.blk.lt
  have HV4 := Lib.hid (HV3.out.fr0 n4.fr)
  have S4 := Lib.hid (S3.out.trans (HV3.out.step0 n4.fr).st)
  have B4 := Lib.hid (B3.out.fr n4.fr (fun x => x))
  have LB4 := Lib.hid (LB3.out.step (HV3.out.step0 n4.fr))
  have LP4 := Lib.hid (L3.out.step (HV3.out.step0 n4.fr))
  have P4 := Lib.hid (P3.out.fr n4.fr (fun x => x))
  have Q4 := Lib.hid n4.blk
  have G4 : Hid (w.heap.size ≤ w3.heap.size ∧ gb ≠ w3.heap.size ∧ gp ≠ w3.heap.size) := ⟨S3.out.fr.size, by have := B3.out.lt; omega, by have := P3.out.lt; omega⟩
  clear n4 HV3 S3 B3 LB3 L3 P3
  obtain ⟨go, hgo⟩ : ∃ go, go = w3.heap.size := ⟨_, rfl⟩
  rw [← hgo] at L4 Q4 G4 ⊢
  clear hgo
  go_wp2_with (refine wpList_storeBlk rfl 148 (.tmp 11) _ rfl go p.cells.toArray rfl rfl _ _ Q4.out I.out Z.out O.out ?_)
  intro w5 b5 f5
  have Q5 := Lib.hid b5
  have HV5 := Lib.hid (HV4.out.store f5 L4.out)
  have S5 := Lib.hid (S4.out.store HV4.out f5 L4.out G4.out.1)
  have LQ5 := Lib.hid (L4.out.store HV4.out f5 L4.out)
  have LP5 := Lib.hid (LP4.out.store HV4.out f5 L4.out)
  have LB5 := Lib.hid (LB4.out.store HV4.out f5 L4.out)
  have B5 := Lib.hid (B4.out.fr f5 G4.out.2.1)
  have P5 := Lib.hid (P4.out.fr f5 G4.out.2.2)
  clear b5 f5 HV4 S4 L4 LP4 LB4 B4 P4 Q4
  have hcall := HCALL.out
  go_wp2_with fail
  clear hcall
  refine (HOP.out w5 gp G2.out.1 (S5.out.fr) P5.out).mono ?_
  rintro e w6 ⟨rfl, p6, f6, r6⟩
  have TL : ∀ k, (k = gp ∨ T k) → Loc w5 v k := fun k hk => hk.elim (fun e => by rw [e]; exact LP5.out) (fun ht => (HT.out k ht).stT S5.out)
  have P6 := Lib.hid p6
  have R6 := Lib.hid r6
  have HV6 := Lib.hid (HV5.out.keepT f6 TL)
  have S6 : Hid (VSt (fun k => T k ∨ w.heap.size ≤ k) v w w6) := (S5.out.weakT (fun _ h => .inr h)).trans ((VSt.of_fr HV5.out f6 TL).weakT (fun k hk => hk.elim (fun e => .inr (by rw [e]; exact G2.out.1)) .inl))
  have nT : ∀ k, w.heap.size ≤ k → ¬ T k := fun k hk ht => absurd (HT.out k ht).lt (Nat.not_lt.2 hk)
  have Q6 := Lib.hid (Q5.out.fr f6 (fun e => e.elim (fun e => G4.out.2.2 e.symm) (nT _ G4.out.1)))
  have B6 := Lib.hid (B5.out.fr f6 (fun e => e.elim G2.out.2 (nT _ HGB.out)))
  have LB6 := Lib.hid (LB5.out.stT (VSt.of_fr HV5.out f6 TL))
  clear p6 r6 TL nT HOP HV5 f6 P5 Q5 B5 LB5 LP5 LQ5 S5 HCALL
  by_cases hc : code = 0
  case neg =>
    have t0 : (code != 0) = true := by simpa using hc
    have HQ := Lib.hid (PC.out _ w6 rfl (by rw [if_neg (fun h => hc h.1)]; exact HV6.out) S6.out R6.out)
    clear hc
    go_wp2
    first | exact HQ.out | (go_ret; exact HQ.out)
  subst hc
  have HU6 := Lib.hid (S6.out.usa HU.out HT0.out.1 (fun e => e.elim HT0.out.2 (fun h => absurd HU.out.pos (Nat.not_lt.2 h))))
  by_cases heq : p' = p
  · have EQ2 : Hid (∀ w, (binOp .eql 148 (.agg p'.cells.toArray) (.agg p.cells.toArray)).run Tryz.prog w = .ok (.bool true) w) := fun w => by rw [EQ.out, decide_eq_true heq]
    have HQ := Lib.hid (PC.out _ w6 rfl (by rw [if_neg (fun h => h.2 heq.symm)]; exact HV6.out) S6.out R6.out)
    clear EQ heq
    go_wp2_with (first
      | (refine wpList_load_add rfl 148 (.tmp 9) rfl ⟨gp, 0, none⟩ rfl p'.cells _ (blk_at P6.out 0 _ (fun j v h => by rw [Nat.zero_add, List.getElem?_toArray]; exact h)) Tryz.underlying148 rfl infoPipe ?_)
      | (refine wpList_load_add rfl 148 (.tmp 11) rfl ⟨go, 0, none⟩ rfl p.cells _ (blk_at Q6.out 0 _ (fun j v h => by rw [Nat.zero_add, List.getElem?_toArray]; exact h)) Tryz.underlying148 rfl infoPipe ?_)
      | (refine wpList_plain rfl fun _ hK => wp_binAgg1 .eql 148 _ _ _ rfl _ _ rfl rfl Tryz.eqGuardType148 _ (EQ2.out _) (hK _ _ ?_)))
    first | exact HQ.out | (go_ret; exact HQ.out)
  · have EQ2 : Hid (∀ w, (binOp .eql 148 (.agg p'.cells.toArray) (.agg p.cells.toArray)).run Tryz.prog w = .ok (.bool false) w) := fun w => by rw [EQ.out, decide_eq_false heq]
    have c1 : w6.cell? ⟨gp, 1, none⟩ = some (.int .i64 (p'.readers : Nat)) := P6.out.cell 1
    have c2 : w6.cell? ⟨gp, 2, none⟩ = some (.int .i64 (p'.writers : Nat)) := P6.out.cell 2
    have HE := Lib.hid heq
    clear EQ heq
    obtain ⟨q, hq⟩ : ∃ q : Bool, q = (p'.readers == 0) := ⟨_, rfl⟩
    have t1 : ((p'.readers : Int) == 0) = q := by rw [hq]; rw [Bool.eq_iff_iff]; simp
    have t2 : q = true → ((p'.writers : Int) == 0) = false := fun h => by
      rw [hq] at h
      have h' : p'.readers = 0 := by simpa using h
      have := OK'.out rfl
      simp
      omega
    have T2 := Lib.hid t2
    clear hq t2
    cases q
    case true =>
      have t2 := T2.out rfl
      go_upto_region 12 with (first
        | (refine wpList_load_add rfl 148 (.tmp 9) rfl ⟨gp, 0, none⟩ rfl p'.cells _ (blk_at P6.out 0 _ (fun j v h => by rw [Nat.zero_add, List.getElem?_toArray]; exact h)) Tryz.underlying148 rfl infoPipe ?_)
        | (refine wpList_load_add rfl 148 (.tmp 11) rfl ⟨go, 0, none⟩ rfl p.cells _ (blk_at Q6.out 0 _ (fun j v h => by rw [Nat.zero_add, List.getElem?_toArray]; exact h)) Tryz.underlying148 rfl infoPipe ?_)
        | (refine wpList_plain rfl fun _ hK => wp_binAgg1 .eql 148 _ _ _ rfl _ _ rfl rfl Tryz.eqGuardType148 _ (EQ2.out _) (hK _ _ ?_)))
      go_wp2_with (refine wpList_load_add rfl 148 (.tmp 9) rfl ⟨gp, 0, none⟩ rfl p'.cells _ (blk_at P6.out 0 _ (fun j v h => by rw [Nat.zero_add, List.getElem?_toArray]; exact h)) Tryz.underlying148 rfl infoPipe (Held.go ?hkA1))
      unfold Held
      go_wp2_with fail
      refine (CE.out trivial _).mono ?_
      rintro e w7 ⟨rfl, f7⟩
      have HV7 := Lib.hid (HV6.out.fr0 f7)
      have HU7 := Lib.hid (HU6.out.fr0 f7)
      have S7 := Lib.hid (S6.out.trans (HV6.out.step0 f7).st)
      have R7 := Lib.hid (HR.out w6 w7 R6.out f7.weak)
      have B7 := Lib.hid (B6.out.fr f7 (fun x => x))
      clear f7 HV6 HU6 S6 R6 B6 P6 Q6 c1 c2
      go_wp2_with (refine wpList_load_add rfl 48 (.tmp 5) rfl ⟨gb, 0, none⟩ rfl b.cells _ (blk_at B7.out 0 _ (fun j v h => by rw [Nat.zero_add, List.getElem?_toArray]; exact h)) Tryz.underlying48 rfl infoBirth (Held.go ?hkB1))
      unfold Held
      go_wp2_with fail
      refine (CN.out _).mono ?_
      rintro e w8 ⟨rfl, f8⟩
      have HV8 := Lib.hid (HV7.out.fr0 f8)
      have HU8 := Lib.hid (HU7.out.fr0 f8)
      have S8 := Lib.hid (S7.out.trans (HV7.out.step0 f8).st)
      have R8 := Lib.hid (HR.out w7 w8 R7.out f8.weak)
      clear f8 HV7 HU7 S7 R7 B7
      go_wp2_with fail
      refine (CS.out trivial w8 HV8.out HU8.out).mono ?_
      rintro e w9 ⟨rfl, V9, S9⟩
      have HQ := Lib.hid (PC.out _ w9 rfl (by rw [if_pos ⟨trivial, fun e => HE.out e.symm⟩]; exact V9) (S8.out.trans S9.st) (HR.out w8 w9 R8.out (S9.fr.mono fun k _ hk => S8.out.lies k hk)))
      clear V9 S9 S8 R8 HV8 HU8 PC
      go_wp2
      first | exact HQ.out | (go_ret; exact HQ.out)
    case false =>
      go_upto_region 12 with (first
        | (refine wpList_load_add rfl 148 (.tmp 9) rfl ⟨gp, 0, none⟩ rfl p'.cells _ (blk_at P6.out 0 _ (fun j v h => by rw [Nat.zero_add, List.getElem?_toArray]; exact h)) Tryz.underlying148 rfl infoPipe ?_)
        | (refine wpList_load_add rfl 148 (.tmp 11) rfl ⟨go, 0, none⟩ rfl p.cells _ (blk_at Q6.out 0 _ (fun j v h => by rw [Nat.zero_add, List.getElem?_toArray]; exact h)) Tryz.underlying148 rfl infoPipe ?_)
        | (refine wpList_plain rfl fun _ hK => wp_binAgg1 .eql 148 _ _ _ rfl _ _ rfl rfl Tryz.eqGuardType148 _ (EQ2.out _) (hK _ _ ?_)))
      go_wp2_with (refine wpList_load_add rfl 148 (.tmp 9) rfl ⟨gp, 0, none⟩ rfl p'.cells _ (blk_at P6.out 0 _ (fun j v h => by rw [Nat.zero_add, List.getElem?_toArray]; exact h)) Tryz.underlying148 rfl infoPipe (Held.go ?hkA2))
      unfold Held
      go_wp2_with fail
      refine (CE.out trivial _).mono ?_
      rintro e w7 ⟨rfl, f7⟩
      have HV7 := Lib.hid (HV6.out.fr0 f7)
      have HU7 := Lib.hid (HU6.out.fr0 f7)
      have S7 := Lib.hid (S6.out.trans (HV6.out.step0 f7).st)
      have R7 := Lib.hid (HR.out w6 w7 R6.out f7.weak)
      have B7 := Lib.hid (B6.out.fr f7 (fun x => x))
      clear f7 HV6 HU6 S6 R6 B6 P6 Q6 c1 c2
      go_wp2_with (refine wpList_load_add rfl 48 (.tmp 5) rfl ⟨gb, 0, none⟩ rfl b.cells _ (blk_at B7.out 0 _ (fun j v h => by rw [Nat.zero_add, List.getElem?_toArray]; exact h)) Tryz.underlying48 rfl infoBirth (Held.go ?hkB2))
      unfold Held
      go_wp2_with fail
      refine (CN.out _).mono ?_
      rintro e w8 ⟨rfl, f8⟩
      have HV8 := Lib.hid (HV7.out.fr0 f8)
      have HU8 := Lib.hid (HU7.out.fr0 f8)
      have S8 := Lib.hid (S7.out.trans (HV7.out.step0 f8).st)
      have R8 := Lib.hid (HR.out w7 w8 R7.out f8.weak)
      clear f8 HV7 HU7 S7 R7 B7
      go_wp2_with fail
      refine (CS.out trivial w8 HV8.out HU8.out).mono ?_
      rintro e w9 ⟨rfl, V9, S9⟩
      have HQ := Lib.hid (PC.out _ w9 rfl (by rw [if_pos ⟨trivial, fun e => HE.out e.symm⟩]; exact V9) (S8.out.trans S9.st) (HR.out w8 w9 R8.out (S9.fr.mono fun k _ hk => S8.out.lies k hk)))
      clear V9 S9 S8 R8 HV8 HU8 PC
      go_wp2
      first | exact HQ.out | (go_ret; exact HQ.out)
end Go.Proofs.YtmpokappjogehaaGreatDoor
