/- Steps of the proof of LawPipesLoseNothing: contracts of the functions that the law reaches, for every world that holds what each of them asks. -/
import Derived.Test.YtmpokappjogehaaGreatDoorQAY
import Derived.Test.YtmpokappjogehaaGreatDoorQAQ
import Derived.Lib.ReflectliteSwap
import Derived.Test.YtmpokappjogehaaGreatDoorQAR
import Derived.Lib.BufferWrite
import Derived.Great.Ranges
set_option linter.unusedVariables false
set_option linter.unusedSimpArgs false
namespace Go.Proofs.YtmpokappjogehaaGreatDoor
open Go.RowKit

/-- A store into one cell of a block of the call's own. -/
theorem wpList_storeFld {P : Program} {ops : Array Oper} {rest : List Oper} {o : Oper} {a : Act} {w : World} {Q : Exit → Act → World → Prop} (hgd : o.guard = none) (ty : TypeId) (x y : Operand) (ho : o.op = .store ty x y)
    (g f : Nat) (v : Value) (hx : a.eval x = .pointer (some ⟨g, f, none⟩)) (hy : a.eval y = v) (h1 : v.oneCell' = true) (hi : (P.info? ty).map (·.size) = some 1)
    (t : TypeId) (cs cs' : Array Value) (hB : Blk w g t cs) (hf : f < cs.size) (hcs : cs.setIfInBounds f v = cs')
    (h : ∀ w', Blk w' g t cs' → Fr (fun k => k = g) w w' → wpList P ops Q rest (a.put o.dst undef) w') : wpList P ops Q (o :: rest) a w := by
  subst hcs
  obtain ⟨ie, hie, hs⟩ : ∃ ie, P.info? ty = some ie ∧ ie.size = 1 := by
    cases he : P.info? ty with
    | none => rw [he] at hi; cases hi
    | some ie => rw [he] at hi; exact ⟨ie, rfl, by simpa using hi⟩
  have hrun := Lib.rl_storeVar_one (P := P) ty ie hie hs ⟨g, f, none⟩ v (cs[f]) h1 w (by rw [hB.cell]; simp [hf]) (hB.frozen _)
  refine wpList_plain hgd fun K hK => ?_
  unfold Oper.wp execOp
  simp only [ho, hx, hy, Instr.storeAt, Instr.sureAddr, Sem.run_bind, Sem.run_pure, Result.andThen_ok, hrun]
  exact hK _ _ (h _ (hB.set_ f v) (Fr.setCell (T := fun k => k = g) (Fr.refl _ w) (fun _ => rfl) v))

theorem pipe_one (p : PipeV) : p.cells.toArray.all (·.oneCell') = true := by simp [PipeV.cells, Value.oneCell']
theorem infoPipe1 (a b c d : Value) : (Tryz.prog.info? 148).map (·.size) = some (#[a, b, c, d] : Array Value).size := infoPipe
set_option maxRecDepth 100000 in
set_option maxHeartbeats 2000000 in
theorem PDecode_any (p : PipeV) (hp : okPipe p) (w : World) : Calls Tryz.prog 284 #[.string ⟨(encP p).toArray⟩] w (Same' w (.tuple #[.agg p.cells.toArray, .int .i64 0])) := by
  have CC : Hid (∀ w, Calls Tryz.prog 181 #[.agg p.cells.toArray] w (Same' w (.int .i64 0))) := PCheck_any p hp
  obtain ⟨h1, h2, h3, h4, h5⟩ := hp
  have H5 := Lib.hid h5
  clear h4 h5
  obtain ⟨s, hs⟩ : ∃ s : ByteArray, s = ⟨(encP p).toArray⟩ := ⟨_, rfl⟩
  have HSL : Hid (strL s = encP p) := by rw [hs]; rfl
  have le : Hid (∀ n, (enc n).length ≤ 10) := enc_length
  have HLL : Hid ((encP p).length ≤ 1099511627776) := by
    simp only [Hid, encP, textB, List.length_append, strL_length, List.length_nil]
    have := le.out p.epoch
    have := le.out p.readers
    have := le.out p.writers
    have := le.out p.bytes.size
    have := H5.out
    omega
  rw [← hs]
  clear hs
  go_enter Tryz.func284, Tryz.ntmps284
  go_wp2_with (refine wpList_allocBlk rfl 148 rfl pipeZ zvPipe #[.int .i64 0, .int .i64 0, .int .i64 0, .string ByteArray.empty] rfl ?_)
  intro w1 n1
  have F1 := Lib.hid n1.fr
  have B1 := Lib.hid n1.blk
  have SZ1 : Hid (w.heap.size < w1.heap.size) := n1.blk.lt
  clear n1
  obtain ⟨gr, hgr⟩ : ∃ gr, gr = w.heap.size := ⟨_, rfl⟩
  rw [← hgr] at B1 SZ1 ⊢
  have HGR := Lib.hid hgr
  clear hgr
  obtain ⟨cc, w2, hcv, hf2, hr2⟩ := conv_bytes w1 s
  have F2 := Lib.hid hf2
  have R2 := Lib.hid hr2
  clear hf2 hr2
  generalize w1.heap.size = gc at hcv R2
  go_wp2_with fail
  refine (NewReader_any _ _ cc (encP p) _ _ (by have h := R2.out; rw [HSL.out] at h; exact h) (by have := HLL.out; have h2 := congrArg List.length HSL.out; rw [strL_length] at h2; omega)).mono ?_
  rintro e w3 ⟨g, S, rfl, hr3, f3, hg3, hS3⟩
  have R3 : Hid (Ri w w3 g S (encP p, 0, 0)) := ⟨(F1.out.trans F2.out).trans f3, hr3, by have := F1.out.size; have := F2.out.size; omega, fun k hk => ⟨by have := (hS3 k hk).1; have := F1.out.size; have := F2.out.size; omega, (hS3 k hk).2⟩⟩
  have B3 := Lib.hid (B1.out.fr (F2.out.trans f3) (fun x => x))
  have GG : Hid (gr < g ∧ ∀ k, S k → gr < k) := ⟨by have := F2.out.size; have := SZ1.out; omega, fun k hk => by have := (hS3 k hk).1; have := F2.out.size; have := SZ1.out; omega⟩
  clear hr3 f3 hg3 hS3 hcv R2 F2 B1 F1 SZ1
  rw [encP_r] at R3
  go_wp2_with (refine wpList_allocBlk rfl 148 rfl pipeZ zvPipe #[.int .i64 0, .int .i64 0, .int .i64 0, .string ByteArray.empty] rfl ?_)
  intro w4 n4
  have R4 := Lib.hid (R3.out.later n4.fr)
  have B4 := Lib.hid (B3.out.fr n4.fr (fun x => x))
  have P4 := Lib.hid n4.blk
  have GP : Hid (g < w3.heap.size ∧ (∀ k, S k → k < w3.heap.size) ∧ gr < w3.heap.size ∧ w.heap.size ≤ w3.heap.size) := ⟨R3.out.rr.lt, fun k hk => (R3.out.sn k hk).2, B3.out.lt, R3.out.fr.size⟩
  have HGP : Hid (w3.heap.size ≤ w3.heap.size) := Nat.le_refl _
  clear n4 B3
  obtain ⟨gp, hgp⟩ : ∃ gp, gp = w3.heap.size := ⟨_, rfl⟩
  rw [← hgp] at P4 GP ⊢
  have HGP : Hid (w3.heap.size ≤ gp) := Nat.le_of_eq hgp.symm
  clear hgp
  go_wp2_with fail
  refine (R4.out.num 1073741824 (by omega) h1).mono ?_
  rintro e w5 ⟨rfl, ⟨q5, r5⟩, f5⟩
  have P5 := Lib.hid (P4.out.fr f5 (fun e => by have e' : gp = g := e; have := GP.out.1; omega))
  have B5 := Lib.hid (B4.out.fr f5 (fun e => by have e' : gr = g := e; have := GG.out.1; omega))
  go_wp2_with (refine wpList_storeFld rfl 3 (.tmp 11) _ rfl gp 0 (.int .i64 (p.epoch : Nat)) rfl rfl rfl (by kernel_rfl) _ _ #[.int .i64 (p.epoch : Nat), .int .i64 0, .int .i64 0, .string ByteArray.empty] P5.out (show 0 < 4 by decide) rfl ?_)
  intro w6 b6 f6
  have P6 := Lib.hid b6
  have R6 := Lib.hid (R3.out.mine r5 f6 HGP.out)
  have B6 := Lib.hid (B5.out.fr f6 (fun e => by have e' : gr = gp := e; have := GP.out.2.2.1; omega))
  clear b6 f6 r5 f5 P5 B5 P4 B4 R4
  go_wp2_with fail
  refine (R6.out.num 64 (by omega) h2).mono ?_
  rintro e w7 ⟨rfl, ⟨q7, r7⟩, f7⟩
  have P7 := Lib.hid (P6.out.fr f7 (fun e => by have e' : gp = g := e; have := GP.out.1; omega))
  have B7 := Lib.hid (B6.out.fr f7 (fun e => by have e' : gr = g := e; have := GG.out.1; omega))
  go_wp2_with (refine wpList_storeFld rfl 3 (.tmp 14) _ rfl gp 1 (.int .i64 (p.readers : Nat)) rfl rfl rfl (by kernel_rfl) _ _ #[.int .i64 (p.epoch : Nat), .int .i64 (p.readers : Nat), .int .i64 0, .string ByteArray.empty] P7.out (show 1 < 4 by decide) rfl ?_)
  intro w8 b8 f8
  have P8 := Lib.hid b8
  have R8 := Lib.hid (R3.out.mine r7 f8 HGP.out)
  have B8 := Lib.hid (B7.out.fr f8 (fun e => by have e' : gr = gp := e; have := GP.out.2.2.1; omega))
  clear b8 f8 r7 f7 P7 B7 P6 B6 R6
  go_wp2_with fail
  refine (R8.out.num 64 (by omega) h3).mono ?_
  rintro e w9 ⟨rfl, ⟨q9, r9⟩, f9⟩
  have P9 := Lib.hid (P8.out.fr f9 (fun e => by have e' : gp = g := e; have := GP.out.1; omega))
  have B9 := Lib.hid (B8.out.fr f9 (fun e => by have e' : gr = g := e; have := GG.out.1; omega))
  go_wp2_with (refine wpList_storeFld rfl 3 (.tmp 17) _ rfl gp 2 (.int .i64 (p.writers : Nat)) rfl rfl rfl (by kernel_rfl) _ _ #[.int .i64 (p.epoch : Nat), .int .i64 (p.readers : Nat), .int .i64 (p.writers : Nat), .string ByteArray.empty] P9.out (show 2 < 4 by decide) rfl ?_)
  intro w10 b10 f10
  have P10 := Lib.hid b10
  have R10 := Lib.hid (R3.out.mine r9 f10 HGP.out)
  have B10 := Lib.hid (B9.out.fr f10 (fun e => by have e' : gr = gp := e; have := GP.out.2.2.1; omega))
  clear b10 f10 r9 f9 P9 B9 P8 B8 R8
  go_wp2_with fail
  refine (R10.out.txt 256 (by have := H5.out; omega) H5.out).mono ?_
  rintro e w11 ⟨rfl, ⟨q11, r11⟩, f11⟩
  have P11 := Lib.hid (P10.out.fr f11 (fun e => by have e' : gp = g := e; have := GP.out.1; omega))
  have B11 := Lib.hid (B10.out.fr f11 (fun e => by have e' : gr = g := e; have := GG.out.1; omega))
  go_wp2_with (refine wpList_storeFld rfl 9 (.tmp 20) _ rfl gp 3 (.string p.bytes) rfl rfl rfl (by kernel_rfl) _ _ #[.int .i64 (p.epoch : Nat), .int .i64 (p.readers : Nat), .int .i64 (p.writers : Nat), .string p.bytes] P11.out (show 3 < 4 by decide) rfl ?_)
  intro w12 b12 f12
  have P12 := Lib.hid b12
  have R12 := Lib.hid (R3.out.mine r11 f12 HGP.out)
  have B12 := Lib.hid (B11.out.fr f12 (fun e => by have e' : gr = gp := e; have := GP.out.2.2.1; omega))
  clear b12 f12 r11 f11 P11 B11 P10 B10 R10
  go_wp2_with fail
  refine (R12.out.cls).mono ?_
  rintro e w13 ⟨rfl, rfl⟩
  have PB : Hid (Blk w12 gp 148 p.cells.toArray) := P12.out
  have F12 := Lib.hid R12.out.fr
  have NE : Hid (gr ≠ gp ∧ w.heap.size ≤ gr) := ⟨by have := GP.out; omega, by have := HGR.out; omega⟩
  have I : Hid ((Tryz.prog.info? 148).map (·.size) = some p.cells.toArray.size) := infoPipe
  have Z : Hid ((#[.int .i64 0, .int .i64 0, .int .i64 0, .string ByteArray.empty] : Array Value).size = p.cells.toArray.size) := rfl
  have O : Hid (p.cells.toArray.all (·.oneCell') = true) := pipe_one p
  clear P12 R12 GP GG HGP HGR R3 HSL HLL le H5
  go_wp2_with (refine wpList_load_g 148 (.tmp 5) rfl ⟨gp, 0, none⟩ rfl p.cells _ (by kernel_rfl) Tryz.underlying148 rfl infoPipe (blk_at PB.out 0 _ (fun j v h => by rw [Nat.zero_add, List.getElem?_toArray]; exact h)) ?_)
  refine (CC.out _).mono ?_
  rintro e w14 ⟨rfl, f14⟩
  have F14 := Lib.hid (F12.out.trans f14)
  have P14 := Lib.hid (PB.out.fr f14 (fun x => x))
  have B14 := Lib.hid (B12.out.fr f14 (fun x => x))
  clear f14 F12 PB B12
  go_wp2_with (refine wpList_load_add rfl 148 (.tmp 5) rfl ⟨gp, 0, none⟩ rfl p.cells _ (blk_at P14.out 0 _ (fun j v h => by rw [Nat.zero_add, List.getElem?_toArray]; exact h)) Tryz.underlying148 rfl infoPipe (Held.go ?hk1))
  unfold Held
  go_wp2_with (refine wpList_storeBlk rfl 148 (.tmp 2) _ rfl gr p.cells.toArray rfl rfl _ _ B14.out I.out Z.out O.out ?_)
  intro wz bz fz
  have JZ := Lib.hid bz
  have FZ : Hid (Fr Nothing w wz) := F14.out.then_ fz (fun i hi e => by have e' : i = gr := e; have := NE.out.2; omega)
  clear bz fz F14 P14 B14
  go_wp2
  exact bodyPost_ret (results_cell_slotN (fn := Tryz.f284) (p := 2) (q := 3) (ty := 148) Tryz.results284 _ wz _ 148 p.cells.toArray (0, 0) _ rfl JZ.out Tryz.underlying148 rfl I.out _ rfl) rfl ⟨rfl, FZ.out⟩
end Go.Proofs.YtmpokappjogehaaGreatDoor

namespace Go.Proofs.YtmpokappjogehaaGreatDoor
open Go.RowKit

set_option maxRecDepth 100000 in
set_option maxHeartbeats 2000000 in
theorem pcheck_any (v : Nat) (b : BirthV) (k : Nat) (w : World) (hb : okBirth b = true) (hs : b.maker.size ≤ 1099511627776) (hk : k ≤ 1073741824) :
    Calls Tryz.prog 89 #[.pointer (some ⟨v, 0, none⟩), .agg b.cells.toArray, .int .i64 (k : Nat)] w (Same' w (.int .i64 0)) := by
  have CB : Hid (∀ w, Calls Tryz.prog 178 #[.agg b.cells.toArray] w (Same' w (.int .i64 0))) := fun w => BCheck_any b w hb hs
  go_enter Tryz.func89, Tryz.ntmps89
  go_wp2_with (refine wpList_boxBlk rfl 48 (.tmp 1) rfl b.cells.toArray rfl ?_)
  intro w0 n0
  have F0 := Lib.hid n0.fr
  have B0 := Lib.hid n0.blk
  clear n0
  generalize w.heap.size = gb at *
  go_wp2_with (refine wpList_load_add rfl 48 (.tmp 4) rfl ⟨gb, 0, none⟩ rfl b.cells _ (blk_at B0.out 0 _ (fun j v h => by rw [Nat.zero_add, List.getElem?_toArray]; exact h)) Tryz.underlying48 rfl infoBirth (Held.go ?hk))
  unfold Held
  go_wp2_with fail
  refine (CB.out _).mono ?_
  rintro e w1 ⟨rfl, f1⟩
  have F1 := Lib.hid (F0.out.trans f1)
  clear f1 F0 B0
  go_wp2_with fail
  refine (isEpoch_any k hk w1).mono ?_
  rintro e w2 ⟨rfl, rfl⟩
  go_wp2
  go_ret
  exact ⟨rfl, F1.out⟩
theorem ViewC.vb_lt {w : World} {v k : Nat} {L : List CV} (h : ViewC w v L) (hk : VB w v k) : k < w.heap.size := by
  obtain ⟨s, mr, ml, cv, rl, ll, hV⟩ := h
  rcases VB.of hV.blk hk with rfl | h | h | h
  · exact hV.blk.lt
  · injection h with h; injection h with h; subst h; exact hV.reads.lt
  · rcases hV.calls.2 with ⟨rfl, _⟩ | ⟨g, cap, cur, rfl, _, h6, _⟩
    · cases h
    · simp only [Value.ownBlock, Option.some.injEq] at h
      subst h
      exact (Array.getElem?_eq_some_iff.1 h6).1
  · injection h with h; injection h with h; subst h; exact hV.last.lt
/-- A block that is not the view's. -/
structure Loc (w : World) (v g : Nat) : Prop where
  lt : g < w.heap.size
  far : ¬ VB w v g
  off : ∃ s, VBase w v s ∧ g ≠ s
theorem Loc.step {w w' : World} {v g : Nat} (h : Loc w v g) (s : VStep v w w') : Loc w' v g := ⟨Nat.lt_of_lt_of_le h.lt s.fr.size, s.far h.lt h.far, let ⟨s0, h1, h2⟩ := h.off; ⟨s0, s.base s0 h1, h2⟩⟩
theorem Loc.new {w w' : World} {v g : Nat} {L : List CV} (h : ViewC w v L) (f : Fr Nothing w w') (h1 : w.heap.size ≤ g) (h2 : g < w'.heap.size) : Loc w' v g := by
  have e := f.block v h.lt (fun x => x)
  refine ⟨h2, fun hb => ?_, ?_⟩
  · have hb' : VB w v g := by
      rcases hb with hb | ⟨cs, hb, hc⟩
      · exact .inl hb
      · exact .inr ⟨cs, e.symm.trans hb, hc⟩
    have := h.vb_lt hb'
    omega
  · obtain ⟨s, mr, ml, cv, rl, ll, hV⟩ := h
    obtain ⟨a, q1, q2⟩ := hV.base
    have hs : s < w.heap.size := q1.lt
    exact ⟨s, ⟨_, e.trans hV.blk, rfl⟩, by omega⟩
/-- Blocks that are not the view's are turned. -/
theorem ViewC.keepT {w w' : World} {v : Nat} {L : List CV} {T : Nat → Prop} (h : ViewC w v L) (f : Fr T w w') (hT : ∀ k, T k → Loc w v k) : ViewC w' v L := by
  obtain ⟨s, mr, ml, cv, rl, ll, hV⟩ := h
  have nb : ∀ k, VB w v k → ¬ T k := fun k hk ht => (hT k ht).far hk
  have n0 := nb v (.inl rfl)
  have k1 := nb mr (.inr ⟨_, hV.blk, .inl rfl⟩)
  have k2 := nb ml (.inr ⟨_, hV.blk, .inr (.inr rfl)⟩)
  have k3 : ∀ k, cv.ownBlock = some k → ¬ T k := fun k e => nb k (.inr ⟨_, hV.blk, .inr (.inl ⟨_, rfl, e⟩)⟩)
  have ns : ¬ T s := fun ht => by
    obtain ⟨s', ⟨cs, q1, q2⟩, q3⟩ := (hT s ht).off
    have h1 : w.heap[v]? = _ := q1
    have h2 : w.heap[v]? = _ := hV.blk
    rw [h1] at h2
    injection h2 with h2
    injection h2 with h2
    subst h2
    injection q2 with q2
    injection q2 with q2
    injection q2 with q2
    injection q2 with q2
    exact q3 q2
  obtain ⟨a, h1, h2⟩ := hV.base
  exact ⟨s, mr, ml, cv, rl, ll, ⟨hV.blk.fr f n0, ⟨a, h1.fr f ns, h2⟩, hV.reads.fr f k1, hV.last.fr f k2, own_fr hV.calls f k3, hV.idx, hV.apart⟩⟩
/-- A step that turns blocks of its caller besides. -/
structure VSt (T : Nat → Prop) (v : Nat) (w w' : World) : Prop where
  fr : Fr (fun k => VB w v k ∨ T k) w w'
  lies : ∀ k, VB w' v k → VB w v k ∨ w.heap.size ≤ k
  base : ∀ s, VBase w v s → VBase w' v s
theorem VStep.st {v : Nat} {w w' : World} {T : Nat → Prop} (h : VStep v w w') : VSt T v w w' := ⟨h.fr.mono fun _ _ x => .inl x, h.lies, h.base⟩
theorem VSt.trans {T : Nat → Prop} {v : Nat} {w w1 w2 : World} (h : VSt T v w w1) (k : VSt T v w1 w2) : VSt T v w w2 :=
  ⟨h.fr.then_ k.fr (fun i hi hr => by
      rcases hr with hr | hr
      · rcases h.lies i hr with h1 | h1
        · exact .inl h1
        · omega
      · exact .inr hr), fun i hi => by
    rcases k.lies i hi with h1 | h1
    · exact h.lies i h1
    · exact .inr (Nat.le_trans h.fr.size h1), fun s hs => k.base s (h.base s hs)⟩
theorem VSt.of_fr {T : Nat → Prop} {v : Nat} {w w' : World} {L : List CV} (hV : ViewC w v L) (f : Fr T w w') (hT : ∀ k, T k → Loc w v k) : VSt T v w w' := by
  have e := f.block v hV.lt (fun ht => (hT v ht).far (.inl rfl))
  refine ⟨f.mono fun _ _ x => .inr x, fun k hk => ?_, fun s ⟨cs, hb, hc⟩ => ⟨cs, e.trans hb, hc⟩⟩
  rcases hk with hk | ⟨cs, hb, hc⟩
  · exact .inl (.inl hk)
  · exact .inl (.inr ⟨cs, e.symm.trans hb, hc⟩)
theorem VSt.weakT {T T' : Nat → Prop} {v : Nat} {w w' : World} (h : VSt T v w w') (hT : ∀ k, T k → T' k) : VSt T' v w w' := ⟨h.fr.mono fun _ _ x => x.imp (fun y => y) (hT _), h.lies, h.base⟩
/-- New blocks that were turned do not count. -/
theorem VSt.new {v : Nat} {w w' : World} (h : VSt (fun k => w.heap.size ≤ k) v w w') : VStep v w w' := ⟨h.fr.mono fun k hk x => x.elim (fun y => y) (fun y => absurd hk (Nat.not_lt.2 y)), h.lies, h.base⟩
theorem Loc.stT {w w' : World} {v g : Nat} {T : Nat → Prop} (h : Loc w v g) (s : VSt T v w w') : Loc w' v g := ⟨Nat.lt_of_lt_of_le h.lt s.fr.size, fun hv => by
    rcases s.lies g hv with h1 | h1
    · exact h.far h1
    · have := h.lt; omega, let ⟨s0, h1, h2⟩ := h.off; ⟨s0, s.base s0 h1, h2⟩⟩
set_option maxRecDepth 100000 in
set_option maxHeartbeats 4000000 in
theorem PGet_any (p : PipeV) (hp : okPipe p) (b : BirthV) (v : Nat) (L : List CV) (w : World) (h : ViewC w v L) (hU : UsaT w) (hb : okBirth b = true) (hn : okNm (nBirth 11 b) = true) (hs : b.maker.size ≤ 1099511627776) (hL : L.length ≤ 1048576)
    (hv : valL L (nBirth 11 b) = ⟨(encP p).toArray⟩) (hh : hasL L (nBirth 11 b) = true) :
    Calls Tryz.prog 222 #[.pointer (some ⟨v, 0, none⟩), .agg b.cells.toArray, .int .i64 (p.epoch : Nat)] w (fun e w' => e = .returned (.tuple #[.agg p.cells.toArray, .int .i64 0]) ∧ ViewC w' v L ∧ VStep v w w') := by
  have CK : Hid (∀ w, Calls Tryz.prog 89 #[.pointer (some ⟨v, 0, none⟩), .agg b.cells.toArray, .int .i64 (p.epoch : Nat)] w (Same' w (.int .i64 0))) := fun w => pcheck_any v b p.epoch w hb hs hp.1
  have CN : Hid (∀ w, Calls Tryz.prog 91 #[.agg b.cells.toArray] w (Same' w (.agg (nBirth 11 b).cells.toArray))) := fun w => OfPipe_any b w
  have CD : Hid (∀ w, Calls Tryz.prog 284 #[.string ⟨(encP p).toArray⟩] w (Same' w (.tuple #[.agg p.cells.toArray, .int .i64 0]))) := fun w => PDecode_any p hp w
  have CG : Hid (∀ w, ViewC w v L → UsaT w → Calls Tryz.prog 101 #[.pointer (some ⟨v, 0, none⟩), .agg (nBirth 11 b).cells.toArray] w (fun e w' => e = .returned (.tuple #[.string ⟨(encP p).toArray⟩, .bool true]) ∧ ViewC w' v L ∧ VStep v w w')) := by
    intro w h1 h2
    have := Get_any (nBirth 11 b) v L w h1 h2 hn hL hs (show (0 : Nat) ≤ _ from Nat.zero_le _)
    rw [hv, hh] at this
    exact this
  have HV := Lib.hid h
  have HU := Lib.hid hU
  have O : Hid (p.cells.toArray.all (·.oneCell') = true) := pipe_one p
  have C0 : Hid (p.cells.toArray[0]? = some (.int .i64 (p.epoch : Nat))) := rfl
  clear h hU hv hh hn
  generalize (nBirth 11 b).cells.toArray = NN at *
  generalize (⟨(encP p).toArray⟩ : ByteArray) = ss at *
  have PC : Hid (p.cells.toArray.size = 4) := rfl
  have PL : Hid (p.cells.length = 4) := rfl
  go_enter Tryz.func222, Tryz.ntmps222
  go_wp2_with (refine wpList_boxBlk rfl 48 (.tmp 1) rfl b.cells.toArray rfl ?_)
  intro w0 n0
  have F0 := Lib.hid n0.fr
  have B0 := Lib.hid n0.blk
  have L0 : Hid (w.heap.size < w0.heap.size) := n0.blk.lt
  clear n0
  obtain ⟨gb, hgb⟩ : ∃ gb, gb = w.heap.size := ⟨_, rfl⟩
  rw [← hgb] at B0 L0 ⊢
  have HGB := Lib.hid hgb
  clear hgb
  go_wp2_with (refine wpList_allocBlk rfl 148 rfl pipeZ zvPipe #[.int .i64 0, .int .i64 0, .int .i64 0, .string ByteArray.empty] rfl ?_)
  intro w1 n1
  have F1 := Lib.hid (F0.out.trans n1.fr)
  have B1 := Lib.hid (B0.out.fr n1.fr (fun x => x))
  have R1 := Lib.hid n1.blk
  have L1 : Hid (w0.heap.size < w1.heap.size) := n1.blk.lt
  clear n1 B0
  obtain ⟨gr, hgr⟩ : ∃ gr, gr = w0.heap.size := ⟨_, rfl⟩
  rw [← hgr] at R1 L1 ⊢
  have HGR := Lib.hid hgr
  clear hgr
  go_wp2_with (refine wpList_load_add rfl 48 (.tmp 4) rfl ⟨gb, 0, none⟩ rfl b.cells _ (blk_at B1.out 0 _ (fun j v h => by rw [Nat.zero_add, List.getElem?_toArray]; exact h)) Tryz.underlying48 rfl infoBirth (Held.go ?hk1))
  unfold Held
  go_wp2_with fail
  refine (CK.out _).mono ?_
  rintro e w2 ⟨rfl, f2⟩
  have F2 := Lib.hid (F1.out.trans f2)
  have B2 := Lib.hid (B1.out.fr f2 (fun x => x))
  have R2 := Lib.hid (R1.out.fr f2 (fun x => x))
  clear f2 F1 B1 R1
  go_wp2_with (refine wpList_load_add rfl 48 (.tmp 4) rfl ⟨gb, 0, none⟩ rfl b.cells _ (blk_at B2.out 0 _ (fun j v h => by rw [Nat.zero_add, List.getElem?_toArray]; exact h)) Tryz.underlying48 rfl infoBirth (Held.go ?hk2))
  unfold Held
  go_wp2_with fail
  refine (CN.out _).mono ?_
  rintro e w3 ⟨rfl, f3⟩
  have F3 := Lib.hid (F2.out.trans f3)
  have R3 := Lib.hid (R2.out.fr f3 (fun x => x))
  have LR : Hid (Loc w3 v gr) := Loc.new HV.out F3.out (by have := HGR.out; have := F0.out.size; omega) R3.out.lt
  clear f3 F2 B2 R2
  go_wp2_with fail
  refine (CG.out w3 (HV.out.fr0 F3.out) (HU.out.fr0 F3.out)).mono ?_
  rintro e w4 ⟨rfl, V4, S4⟩
  have R4 := Lib.hid (S4.blk R3.out LR.out.far)
  have LR4 := Lib.hid (LR.out.step S4)
  have HV4 := Lib.hid V4
  have HS4 := Lib.hid ((HV.out.step0 F3.out).trans S4)
  clear V4 S4 R3 LR F3 HV HU
  go_wp2_with fail
  refine (CD.out _).mono ?_
  rintro e w5 ⟨rfl, f5⟩
  have HV5 := Lib.hid (HV4.out.fr0 f5)
  have HS5 := Lib.hid (HS4.out.trans (HV4.out.step0 f5))
  have R5 := Lib.hid (R4.out.fr f5 (fun x => x))
  have LR5 := Lib.hid (LR4.out.step (HV4.out.step0 f5))
  clear f5 HV4 HS4 R4 LR4
  go_wp2_with (refine wpList_allocBlk rfl 148 rfl pipeZ zvPipe #[.int .i64 0, .int .i64 0, .int .i64 0, .string ByteArray.empty] rfl ?_)
  intro w6 n6
  have HV6 := Lib.hid (HV5.out.fr0 n6.fr)
  have HS6 := Lib.hid (HS5.out.trans (HV5.out.step0 n6.fr))
  have LP : Hid (Loc w6 v w5.heap.size) := Loc.new HV5.out n6.fr (Nat.le_refl _) n6.blk.lt
  have R6 := Lib.hid (R5.out.fr n6.fr (fun x => x))
  have P6 := Lib.hid n6.blk
  have NE : Hid (gr ≠ w5.heap.size ∧ w.heap.size ≤ w5.heap.size) := ⟨by have := R5.out.lt; omega, HS5.out.fr.size⟩
  have LR6 := Lib.hid (LR5.out.step (HV5.out.step0 n6.fr))
  clear n6 HV5 HS5 R5 LR5
  obtain ⟨gp, hgp⟩ : ∃ gp, gp = w5.heap.size := ⟨_, rfl⟩
  rw [← hgp] at LP P6 NE ⊢
  clear hgp
  have I : Hid ((Tryz.prog.info? 148).map (·.size) = some p.cells.toArray.size) := infoPipe
  go_wp2_with (refine wpList_storeBlk rfl 148 (.tmp 11) _ rfl gp p.cells.toArray rfl rfl _ _ P6.out I.out rfl O.out ?_)
  intro w7 b7 f7
  have P7 := Lib.hid b7
  have HV7 := Lib.hid (HV6.out.keepT f7 (fun k hk => by have e' : k = gp := hk; rw [e']; exact LP.out))
  have R7 := Lib.hid (R6.out.fr f7 NE.out.1)
  have HS7 : Hid (VSt (fun k => w.heap.size ≤ k) v w w7) := (VStep.st HS6.out).trans ((VSt.of_fr (T := fun k => k = gp) HV6.out f7 (fun k hk => by have e' : k = gp := hk; rw [e']; exact LP.out)).weakT (fun k hk => by have e' : k = gp := hk; rw [e']; exact NE.out.2))
  have LR7 := Lib.hid (LR6.out.stT (VSt.of_fr (T := fun k => k = gp) HV6.out f7 (fun k hk => by have e' : k = gp := hk; rw [e']; exact LP.out)))
  have NR : Hid (w.heap.size ≤ gr) := by have := HGR.out; have := F0.out.size; simp only [Hid]; omega
  clear b7 f7 P6 HV6 R6 HS6 LR6
  have c7 : w7.cell? ⟨gp, 0, none⟩ = some (.int .i64 (p.epoch : Nat)) := P7.out.cell 0
  go_wp2_with (refine wpList_load_add rfl 148 (.tmp 11) rfl ⟨gp, 0, none⟩ rfl p.cells _ (blk_at P7.out 0 _ (fun j v h => by rw [Nat.zero_add, List.getElem?_toArray]; exact h)) Tryz.underlying148 rfl infoPipe (Held.go ?hk7))
  unfold Held
  go_wp2_with (refine wpList_storeBlk rfl 148 (.tmp 6) _ rfl gr p.cells.toArray rfl rfl _ _ R7.out I.out rfl O.out ?_)
  intro w8 b8 f8
  have P8 := Lib.hid b8
  have HV8 := Lib.hid (HV7.out.keepT f8 (fun k hk => by have e' : k = gr := hk; rw [e']; exact LR7.out))
  have HS8 : Hid (VStep v w w8) := (HS7.out.trans ((VSt.of_fr (T := fun k => k = gr) HV7.out f8 (fun k hk => by have e' : k = gr := hk; rw [e']; exact LR7.out)).weakT (fun k hk => by have e' : k = gr := hk; rw [e']; exact NR.out))).new
  clear b8 f8 HV7 HS7 R7 P7 LR7
  go_wp2
  exact bodyPost_ret (results_cell_slotN (fn := Tryz.f222) (p := 6) (q := 7) (ty := 148) Tryz.results222 _ w8 _ 148 p.cells.toArray (0, 0) _ rfl P8.out Tryz.underlying148 rfl I.out _ rfl) rfl ⟨rfl, HV8.out, HS8.out⟩
end Go.Proofs.YtmpokappjogehaaGreatDoor

namespace Go.Proofs.YtmpokappjogehaaGreatDoor
open Go.RowKit

set_option maxRecDepth 100000 in
set_option maxHeartbeats 2000000 in
theorem OfBlock_any (b : BirthV) (w : World) : Calls Tryz.prog 159 #[.agg b.cells.toArray, .int .i64 0] w (Same' w (.agg (nBirth 8 b).cells.toArray)) := by
  have O := Lib.hid (NameV.one (nBirth 8 b))
  have I : Hid ((Tryz.prog.info? 144).map (·.size) = some (nBirth 8 b).cells.toArray.size) := infoName
  have Z : Hid ((#[.int .i64 0, .string ByteArray.empty, .int .i64 0, .int .i64 0, .string ByteArray.empty] : Array Value).size = (nBirth 8 b).cells.toArray.size) := rfl
  have CB : Hid (∀ w, Calls Tryz.prog 180 #[.int .i64 8, .agg b.cells.toArray] w (Same' w (.agg (nBirth 8 b).cells.toArray))) := ofBirth_any 8 b
  have S3 : Hid ((nBirth 8 b).cells.toArray.setIfInBounds 3 (.int .i64 0) = (nBirth 8 b).cells.toArray) := rfl
  obtain ⟨CL, hCL⟩ : ∃ CL, CL = (nBirth 8 b).cells := ⟨_, rfl⟩
  have LN : Hid (CL.length = 5) := by rw [hCL]; rfl
  rw [← hCL] at O I Z CB S3 ⊢
  clear hCL
  go_enter Tryz.func159, Tryz.ntmps159
  go_wp2_with (refine wpList_boxBlk rfl 48 (.tmp 0) rfl b.cells.toArray rfl ?_)
  intro w0 n0
  have F0 := Lib.hid n0.fr
  have B0 := Lib.hid n0.blk
  clear n0
  generalize w.heap.size = gb at *
  go_wp2_with (refine wpList_allocBlk rfl 144 rfl nameZ zvName #[.int .i64 0, .string ByteArray.empty, .int .i64 0, .int .i64 0, .string ByteArray.empty] rfl ?_)
  intro w1 n1
  have N1 := Lib.hid n1
  have B1 := Lib.hid (Blk.fr B0.out n1.fr (fun x => x))
  clear n1 B0
  go_wp2_with (refine wpList_load_add rfl 48 (.tmp 2) rfl ⟨gb, 0, none⟩ rfl b.cells _ (blk_at B1.out 0 _ (fun j v h => by rw [Nat.zero_add, List.getElem?_toArray]; exact h)) Tryz.underlying48 rfl infoBirth (Held.go ?hk))
  unfold Held
  go_wp2_with fail
  refine (CB.out _).mono ?_
  rintro e w2 ⟨rfl, f2⟩
  have F2 := Lib.hid ((F0.out.trans N1.out.fr).trans f2)
  have N2 := Lib.hid (Blk.fr N1.out.blk f2 (fun x => x))
  have hs : Hid (w.heap.size ≤ w0.heap.size) := F0.out.size
  clear f2 N1 B1 F0
  generalize w0.heap.size = ga at *
  go_wp2_with (refine wpList_allocBlk rfl 144 rfl nameZ zvName #[.int .i64 0, .string ByteArray.empty, .int .i64 0, .int .i64 0, .string ByteArray.empty] rfl ?_)
  intro w3 n3
  have F3 := Lib.hid (F2.out.trans n3.fr)
  have N3 := Lib.hid (N2.out.fr n3.fr (fun x => x))
  have M3 := Lib.hid n3.blk
  have G3 : Hid (w.heap.size ≤ w2.heap.size ∧ ga ≠ w2.heap.size) := ⟨F2.out.size, by have := N2.out.lt; omega⟩
  clear n3 F2 N2
  generalize w2.heap.size = gn at *
  go_wp2_with (refine wpList_storeBlk rfl 144 (.tmp 5) _ rfl gn CL.toArray rfl rfl _ _ M3.out I.out Z.out O.out ?_)
  intro w4 b4 f4
  have M4 := Lib.hid b4
  have N4 := Lib.hid (N3.out.fr f4 (fun e => G3.out.2 e))
  have F4 : Hid (Fr Nothing w w4) := F3.out.then_ f4 (fun i hi e => by have e' : i = gn := e; have := G3.out.1; omega)
  clear b4 f4 F3 M3 N3
  go_wp2_with (refine wpList_storeFld rfl 3 (.tmp 9) _ rfl gn 3 (.int .i64 0) rfl rfl rfl (by kernel_rfl) _ _ CL.toArray M4.out (by have := LN.out; rw [List.size_toArray]; omega) S3.out ?_)
  intro w5 b5 f5
  have M5 := Lib.hid b5
  have N5 := Lib.hid (N4.out.fr f5 (fun e => G3.out.2 e))
  have F5 : Hid (Fr Nothing w w5) := F4.out.then_ f5 (fun i hi e => by have e' : i = gn := e; have := G3.out.1; omega)
  clear b5 f5 F4 M4 N4
  go_wp2_with (refine wpList_load_add rfl 144 (.tmp 5) rfl ⟨gn, 0, none⟩ rfl CL _ (blk_at M5.out 0 _ (fun j v h => by rw [Nat.zero_add, List.getElem?_toArray]; exact h)) Tryz.underlying144 rfl I.out (Held.go ?hk5))
  unfold Held
  go_wp2_with (refine wpList_storeBlk rfl 144 (.tmp 4) _ rfl ga CL.toArray rfl rfl _ _ N5.out I.out Z.out O.out ?_)
  intro wz bz fz
  have JZ := Lib.hid bz
  have FZ : Hid (Fr Nothing w wz) := F5.out.then_ fz (fun i hi e => by have e' : i = ga := e; have := hs.out; omega)
  clear bz fz F5 M5 N5
  go_wp2
  exact bodyPost_ret (results_cell_row (fn := Tryz.f159) (p := 4) (ty := 144) Tryz.results159 _ wz _ 144 CL.toArray (0, 0) _ rfl JZ.out Tryz.underlying144 rfl I.out) rfl ⟨rfl, FZ.out⟩
theorem wp_copyR {P : Program} {w : World} {o : Oper} {a : Act} {K : Act → World → Prop} {Q : Exit → Act → World → Prop} (d s : Operand) (t t' : TypeId)
    (ho : o.op = .call { callee := .builtin .copy, args := #[d, s], argTypes := #[t, t'] }) (v u : Value) (hd : a.eval d = v) (hs : a.eval s = u) {v' : Value} {w' : World}
    (hr : (Builtin.copy_ #[t, t'] o.type #[v, u]).run P w = .ok v' w') (h : K (a.put o.dst v') w') : o.wp P a w K Q := by
  unfold Oper.wp execOp
  simp only [ho, resolve, invoke, builtin, Sem.run_bind, Sem.run_pure, Result.andThen_ok, List.map_toArray, List.map_cons, List.map_nil, hd, hs, hr]
  exact h
theorem wpList_copyR {P : Program} {w : World} {ops : Array Oper} {rest : List Oper} {o : Oper} {a : Act} {Q : Exit → Act → World → Prop} (hgd : o.guard = none) (d s : Operand) (t t' : TypeId)
    (ho : o.op = .call { callee := .builtin .copy, args := #[d, s], argTypes := #[t, t'] }) (v u : Value) (hd : a.eval d = v) (hs : a.eval s = u) {v' : Value} {w' : World}
    (hr : (Builtin.copy_ #[t, t'] o.type #[v, u]).run P w = .ok v' w') (h : wpList P ops Q rest (a.put o.dst v') w') : wpList P ops Q (o :: rest) a w :=
  wpList_plain hgd fun _ hK => wp_copyR d s t t' ho v u hd hs hr (hK _ _ h)
theorem iwithin_any (w : World) : Calls Tryz.prog 156 #[.int .i64 0, .int .i64 4096] w (SameW w (.bool true)) := by
  go_enter Tryz.func156, Tryz.ntmps156
  go_wp2
  go_ret
  exact ⟨rfl, rfl⟩
def Z64L : List Value := List.replicate 64 (.int .u8 0)
theorem zvA64 (w : World) : (zeroValue 214).run Tryz.prog w = .ok (.agg Z64L.toArray) w := by kernel_rfl
theorem infoA64 : (Tryz.prog.info? 214).map (·.size) = some 64 := by kernel_rfl
theorem Z64_len : Z64L.length = 64 := by rfl
theorem Z64_one : Z64L.toArray.all (·.oneCell') = true := by kernel_rfl
theorem ViewD.keepT {w w' : World} {v s mr ml : Nat} {cv : Value} {rl ll : NL} {L : List CV} {T : Nat → Prop} (hV : ViewD w v L s mr ml cv rl ll) (f : Fr T w w') (hT : ∀ k, T k → Loc w v k) : ViewD w' v L s mr ml cv rl ll := by
  have nb : ∀ k, VB w v k → ¬ T k := fun k hk ht => (hT k ht).far hk
  have n0 := nb v (.inl rfl)
  have k1 := nb mr (.inr ⟨_, hV.blk, .inl rfl⟩)
  have k2 := nb ml (.inr ⟨_, hV.blk, .inr (.inr rfl)⟩)
  have k3 : ∀ k, cv.ownBlock = some k → ¬ T k := fun k e => nb k (.inr ⟨_, hV.blk, .inr (.inl ⟨_, rfl, e⟩)⟩)
  have ns : ¬ T s := fun ht => by
    obtain ⟨s', ⟨cs, q1, q2⟩, q3⟩ := (hT s ht).off
    have h1 : w.heap[v]? = _ := q1
    have h2 : w.heap[v]? = _ := hV.blk
    rw [h1] at h2
    injection h2 with h2
    injection h2 with h2
    subst h2
    injection q2 with q2
    injection q2 with q2
    injection q2 with q2
    injection q2 with q2
    exact q3 q2
  obtain ⟨a, h1, h2⟩ := hV.base
  exact ⟨hV.blk.fr f n0, ⟨a, h1.fr f ns, h2⟩, hV.reads.fr f k1, hV.last.fr f k2, own_fr hV.calls f k3, hV.idx, hV.apart⟩
set_option maxRecDepth 100000 in
set_option maxHeartbeats 4000000 in
theorem block_any (b : BirthV) (v s mr ml : Nat) (cv : Value) (rl ll : NL) (L : List CV) (w : World) (h : ViewD w v L s mr ml cv rl ll) (hU : UsaT w) (hn : okNm (nBirth 8 b) = true) (hL : L.length ≤ 1048576) (hs : b.maker.size ≤ 1099511627776) (he : (valL L (nBirth 8 b)).size = 0) :
    Calls Tryz.prog 158 #[.pointer (some ⟨v, 0, none⟩), .agg b.cells.toArray, .int .i64 0] w (fun e w' => e = .returned (.tuple #[.agg Z64L.toArray, .bool (hasL L (nBirth 8 b))]) ∧ (∃ rl', ViewD w' v L s mr ml cv rl' ll) ∧ VStep v w w') := by
  have CN : Hid (∀ w, Calls Tryz.prog 159 #[.agg b.cells.toArray, .int .i64 0] w (Same' w (.agg (nBirth 8 b).cells.toArray))) := fun w => OfBlock_any b w
  have CG : Hid (∀ w rl, ViewD w v L s mr ml cv rl ll → UsaT w → Calls Tryz.prog 101 #[.pointer (some ⟨v, 0, none⟩), .agg (nBirth 8 b).cells.toArray] w (fun e w' => e = .returned (.tuple #[.string (valL L (nBirth 8 b)), .bool (hasL L (nBirth 8 b))]) ∧ (∃ rl', ViewD w' v L s mr ml cv rl' ll) ∧ VStep v w w')) :=
    fun w rl h1 h2 => GetD_any (nBirth 8 b) v s mr ml cv rl ll L w h1 h2 hn hL hs (show (0 : Nat) ≤ _ from Nat.zero_le _)
  have HE := Lib.hid he
  have HV := Lib.hid h
  have HU := Lib.hid hU
  have HC : Hid (∀ w, ViewD w v L s mr ml cv rl ll → ViewC w v L) := fun w h => ⟨_, _, _, _, _, _, h⟩
  clear h hU he hn
  generalize (nBirth 8 b).cells.toArray = NN at *
  generalize valL L (nBirth 8 b) = x at *
  generalize hasL L (nBirth 8 b) = y at *
  have I : Hid ((Tryz.prog.info? 214).map (·.size) = some Z64L.toArray.size) := infoA64
  go_enter Tryz.func158, Tryz.ntmps158
  go_wp2_with (refine wpList_boxBlk rfl 48 (.tmp 1) rfl b.cells.toArray rfl ?_)
  intro w1 n1
  have F1 := Lib.hid n1.fr
  have B1 := Lib.hid n1.blk
  clear n1
  generalize w.heap.size = gb at *
  go_wp2_with (refine wpList_allocBlk rfl 214 rfl (.agg Z64L.toArray) zvA64 Z64L.toArray rfl ?_)
  intro w2 n2
  have F2 := Lib.hid (F1.out.trans n2.fr)
  have B2 := Lib.hid (B1.out.fr n2.fr (fun x => x))
  have R2 := Lib.hid n2.blk
  have G2 : Hid (w.heap.size ≤ w1.heap.size) := F1.out.size
  clear n2 F1 B1
  obtain ⟨gr, hgr⟩ : ∃ gr, gr = w1.heap.size := ⟨_, rfl⟩
  rw [← hgr] at R2 G2 ⊢
  clear hgr
  go_wp2_with (refine wpList_allocBlk rfl 214 rfl (.agg Z64L.toArray) zvA64 Z64L.toArray rfl ?_)
  intro w3 n3
  have F3 := Lib.hid (F2.out.trans n3.fr)
  have B3 := Lib.hid (B2.out.fr n3.fr (fun x => x))
  have R3 := Lib.hid (R2.out.fr n3.fr (fun x => x))
  have Y3 := Lib.hid n3.blk
  have G3 : Hid (w.heap.size ≤ w2.heap.size ∧ gr ≠ w2.heap.size) := ⟨F2.out.size, by have := R2.out.lt; omega⟩
  clear n3 F2 B2 R2
  obtain ⟨gy, hgy⟩ : ∃ gy, gy = w2.heap.size := ⟨_, rfl⟩
  rw [← hgy] at Y3 G3 ⊢
  clear hgy
  go_wp2_with (refine wpList_load_add rfl 48 (.tmp 4) rfl ⟨gb, 0, none⟩ rfl b.cells _ (blk_at B3.out 0 _ (fun j v h => by rw [Nat.zero_add, List.getElem?_toArray]; exact h)) Tryz.underlying48 rfl infoBirth (Held.go ?hk))
  unfold Held
  go_wp2_with fail
  refine (CN.out _).mono ?_
  rintro e w4 ⟨rfl, f4⟩
  have F4 := Lib.hid (F3.out.trans f4)
  have R4 := Lib.hid (R3.out.fr f4 (fun x => x))
  have Y4 := Lib.hid (Y3.out.fr f4 (fun x => x))
  have V4 := Lib.hid (HV.out.fr0 F4.out)
  have LR : Hid (Loc w4 v gr) := Loc.new (HC.out w HV.out) F4.out G2.out R4.out.lt
  have LY : Hid (Loc w4 v gy) := Loc.new (HC.out w HV.out) F4.out G3.out.1 Y4.out.lt
  clear f4 F3 R3 Y3 B3
  go_wp2_with fail
  refine (CG.out w4 rl V4.out (HU.out.fr0 F4.out)).mono ?_
  rintro e w5 ⟨rfl, ⟨rl5, V5⟩, S5⟩
  have HV5 := Lib.hid V5
  have VC5 : Hid (ViewC w5 v L) := ⟨_, _, _, _, _, _, V5⟩
  have HS5 := Lib.hid ((VStep.of_fr0 HV.out.blk.lt F4.out).trans S5)
  have R5 := Lib.hid (S5.blk R4.out LR.out.far)
  have Y5 := Lib.hid (S5.blk Y4.out LY.out.far)
  have LR5 := Lib.hid (LR.out.step S5)
  clear V5 S5 V4 F4 R4 Y4 LR LY HU
  have hcp : (Builtin.copy_ #[22, 9] 3 #[.slice (some ⟨gy, 0, none⟩) 64 64, .string x]).run Tryz.prog w5 = .ok (goInt 0) w5 := Lib.run_copy_empty_string w5 _ _ _ 5 _ _ _ _ Tryz.underlying22 (by kernel_rfl) HE.out
  go_upto_region 4 with (refine wpList_copyR rfl (.tmp 19) (.tmp 20) 22 9 rfl _ _ rfl rfl hcp ?_)
  clear hcp
  go_wp2_with (refine wpList_load_add rfl 214 (.tmp 8) rfl ⟨gy, 0, none⟩ rfl Z64L _ (blk_at Y5.out 0 _ (fun j v h => by rw [Nat.zero_add, List.getElem?_toArray]; exact h)) Tryz.underlying214 rfl infoA64 (Held.go ?hk5))
  unfold Held
  go_wp2_with (refine wpList_storeBlk rfl 214 (.tmp 6) _ rfl gr Z64L.toArray rfl rfl _ _ R5.out I.out rfl Z64_one ?_)
  intro wz bz fz
  have JZ := Lib.hid bz
  have HVZ : Hid (∃ rl', ViewD wz v L s mr ml cv rl' ll) := ⟨rl5, HV5.out.keepT fz (fun k hk => by have e' : k = gr := hk; rw [e']; exact LR5.out)⟩
  have HSZ : Hid (VStep v w wz) := (HS5.out.st.trans ((VSt.of_fr (T := fun k => k = gr) VC5.out fz (fun k hk => by have e' : k = gr := hk; rw [e']; exact LR5.out)).weakT (fun k hk => by have e' : k = gr := hk; rw [e']; exact G2.out))).new
  clear bz fz HV5 VC5 HS5 R5 Y5 LR5
  go_wp2
  exact bodyPost_ret (results_cell_slotN (fn := Tryz.f158) (p := 6) (q := 7) (ty := 214) Tryz.results158 _ wz _ 214 Z64L.toArray (0, 0) _ rfl JZ.out Tryz.underlying214 rfl I.out _ rfl) rfl ⟨rfl, HVZ.out, HSZ.out⟩
end Go.Proofs.YtmpokappjogehaaGreatDoor

namespace Go.Proofs.YtmpokappjogehaaGreatDoor
open Go.RowKit

attribute [local go_sem] Oper.semAt_some

def PartsMade (c : Nat) (w : World) (e : Ending) (w' : World) : Prop := ∃ ga gb, e = .returned (.func (.func 247) #[] #[.pointer (some ⟨ga, 0, none⟩), .pointer (some ⟨gb, 0, none⟩)]) ∧ Fr Nothing w w' ∧ Blk w' ga 3 #[.int .i64 0] ∧ Blk w' gb 3 #[.int .i64 (c : Nat)] ∧ w.heap.size ≤ ga ∧ w.heap.size ≤ gb
set_option maxRecDepth 100000 in
theorem iparts_any (c : Nat) (w : World) : Calls Tryz.prog 157 #[.int .i64 0, .int .i64 (c : Nat)] w (PartsMade c w) := by
  go_enter Tryz.func157, Tryz.ntmps157
  go_wp2_with (refine wpList_boxBlk rfl 3 (.tmp 0) rfl #[.int .i64 0] rfl ?_)
  intro w1 n1
  have F1 := Lib.hid n1.fr
  have B1 := Lib.hid n1.blk
  clear n1
  obtain ⟨ga, hga⟩ : ∃ ga, ga = w.heap.size := ⟨_, rfl⟩
  have GA : Hid (w.heap.size ≤ ga) := Nat.le_of_eq hga.symm
  rw [← hga] at B1 ⊢
  clear hga
  go_wp2_with (refine wpList_boxBlk rfl 3 (.tmp 1) rfl #[.int .i64 (c : Nat)] rfl ?_)
  intro w2 n2
  have F2 := Lib.hid (F1.out.trans n2.fr)
  have B2 := Lib.hid (B1.out.fr n2.fr (fun x => x))
  have K2 := Lib.hid n2.blk
  have GB : Hid (w.heap.size ≤ w1.heap.size) := F1.out.size
  clear n2 F1 B1
  generalize w1.heap.size = gb at *
  go_wp2
  go_ret
  exact ⟨ga, gb, rfl, F2.out, B2.out, K2.out, GA.out, GB.out⟩
def partV (c : Nat) : Value := .agg #[.int .i64 0, .int .i64 0, .int .i64 (c : Nat)]
/-- The end's box stays. -/
def KpE (gb c : Nat) (A B : World) : Prop := Blk A gb 3 #[.int .i64 (c : Nat)] → Blk B gb 3 #[.int .i64 (c : Nat)]
set_option maxRecDepth 100000 in
set_option maxHeartbeats 1000000 in
theorem parts_one (m ga gb c : Nat) (w : World) (hc0 : 0 < c) (hc : c < 64) (hA : Blk w ga 3 #[.int .i64 0]) (hB : Blk w gb 3 #[.int .i64 (c : Nat)]) :
    SeqStopsK Fence.wide m Tryz.prog 247 #[.pointer (some ⟨ga, 0, none⟩), .pointer (some ⟨gb, 0, none⟩)] (fun _ : Unit => #[partV c]) (KpE gb c) (fun ys => ys = [()]) (fun _ => True) 1 w := by
  intro l J Jx W hW hJ _ hY h0
  have HY := Lib.hid hY
  have H0 := Lib.hid h0
  have k0 : W.cell? ⟨ga, 0, none⟩ = some (.int .i64 0) := (hW.cell (p := ⟨ga, 0, none⟩) hA.lt).trans (hA.cell 0)
  have BB : Hid (Blk W gb 3 #[.int .i64 (c : Nat)]) := (hW.block gb hB.lt).trans hB
  clear hA hB h0 hW hY hJ
  refine callsIn_of_wp Tryz.func247 rfl trivial ?_ rfl
  simp only [Tryz.ntmps247, List.size_toArray, List.length_cons, List.length_nil, Nat.reduceAdd, Nat.reduceSub, Array.replicate_succ, Array.replicate_zero, List.push_toArray, List.append_toArray, List.nil_append, List.cons_append]
  gi_wp2
  clear k0
  gi_loopw [4] (fun v wr => Blk wr gb 3 #[.int .i64 (c : Nat)] ∧ ((v = .int .i64 0 ∧ J [] wr) ∨ (v = .int .i64 (c : Nat) ∧ J [()] wr))) (fun v _ => c - (intOf v).toNat)
  case atStart => exact ⟨BB.out, .inl ⟨rfl, H0.out⟩⟩
  case round =>
    obtain ⟨hb, hcase⟩ := hrel
    have HB := Lib.hid hb
    have k1 : wr.cell? ⟨gb, 0, none⟩ = some (.int .i64 (c : Nat)) := hb.cell 0
    clear hb BB H0
    rcases hcase with ⟨rfl, hJs⟩ | ⟨rfl, hJs⟩
    · obtain ⟨fn, tmps, assign, body, hy, hR⟩ := HY.out [] () wr hJs (by decide)
      have HR := Lib.hid hR
      have t1 : decide ((0 : Int) < (c : Int)) = true := decide_eq_true (by omega)
      have t1' : (0 : Int) < (c : Int) := by omega
      have t1'' : 0 < c := by omega
      have t2 : min (c : Int) 64 = (c : Int) := by omega
      have t3 : IntKind.i64.wrap (c : Int) = (c : Int) := IntWalk.i64_in _ (by omega)
      have t4 : (c : Int) - 0 = (c : Int) := by omega
      clear hR hJs
      have hy' : (Instr.yield l #[.agg #[.int .i64 0, .int .i64 0, .int .i64 (c : Nat)]]).run Tryz.prog wr = .ok (.round l fn tmps assign body) wr := hy
      clear hy
      gi_wp2
      refine ⟨(fun h => by cases h), HR.out.mono ?_⟩
      rintro e W3 (⟨rfl, hJ3, hk3⟩ | ⟨rfl, hJx3⟩)
      · have KJ3 := Lib.hid hJ3
        have KB3 := Lib.hid (hk3 HB.out)
        clear hJ3 hk3
        gi_wp2
        go_roundw
        case rel => exact ⟨KB3.out, .inr ⟨rfl, KJ3.out⟩⟩
        case measure => simp [intOf]; omega
      · gi_wp2
        refine bodyPost_ret (results_none rfl _ _ _) rfl ?_
        exact ⟨⟨_, rfl⟩, .inr ⟨_, trivial, hJx3⟩⟩
    · have t1 : decide ((c : Int) < (c : Int)) = false := decide_eq_false (by omega)
      have t1' : ¬ ((c : Int) < (c : Int)) := by omega
      have HJs := Lib.hid hJs
      clear hJs
      gi_wp2
      go_end0
      exact ⟨⟨_, rfl⟩, .inl HJs.out⟩
end Go.Proofs.YtmpokappjogehaaGreatDoor
