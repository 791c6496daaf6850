/- The reference's schedule. -/
import Derived.Test.YtpnchdgplpdefaaGreatDoorEnShaB
import Derived.Test.YtpnchdgplpdefaaGreatDoorEnGwA
import Derived.Deep.DeepCutAuto
import Derived.StillTailTactics
import Derived.Deep.RegionWith
namespace Go.Proofs.YtpnchdgplpdefaaGreatDoor
open Go.RowKit
theorem wpList_loadAt {P : Program} {ops : Array Oper} {rest : List Oper} {o : Oper} {a : Act} {w : World} {Q : Exit → Act → World → Prop} (hgd : o.guard = none) (ty : TypeId) (x : Operand) (ho : o.op = .load ty x)
  (b f : Nat) (hx : a.eval x = .pointer (some ⟨b, f, none⟩)) (ie : TypeInfo) (hie : P.info? ty = some ie) (hagg : ∀ w, (isAgg ty).run P w = .ok true w) (vs : List Value) (hs : vs.length = ie.size)
  (hc : ∀ k v, vs[k]? = some v → w.cell? ⟨b, f + k, none⟩ = some v)
  (h : wpList P ops Q rest (a.put o.dst (.agg vs.toArray)) w) : wpList P ops Q (o :: rest) a w := by
 refine wpList_plain hgd fun K hK => ?_
 unfold Oper.wp execOp
 simp only [ho, hx, Instr.loadAt, Instr.sureAddr, Sem.run_bind, Sem.run_pure, Result.andThen_ok, Lib.rl_loadVar_cells ty ie hie hagg b f vs hs w hc]
 exact hK _ _ h
theorem wpList_storeAt {P : Program} {ops : Array Oper} {rest : List Oper} {o : Oper} {a : Act} {w : World} {Q : Exit → Act → World → Prop} (hgd : o.guard = none) (ty : TypeId) (x y : Operand) (ho : o.op = .store ty x y)
  (b f : Nat) (hx : a.eval x = .pointer (some ⟨b, f, none⟩)) (ie : TypeInfo) (hie : P.info? ty = some ie) (vs : List Value) (hy : a.eval y = .agg vs.toArray) (hs : vs.length = ie.size) (h1 : ∀ v ∈ vs, v.oneCell' = true)
  (t : TypeId) (cs : List Value) (hB : Blk w b t cs.toArray) (hl : f + vs.length ≤ cs.length)
  (h : ∀ w', Blk w' b t (cs.take f ++ vs ++ cs.drop (f + vs.length)).toArray → Fr (fun k => k = b) w w' → wpList P ops Q rest (a.put o.dst undef) w') : wpList P ops Q (o :: rest) a w := by
 refine wpList_plain hgd fun K hK => ?_
 have hrun := Lib.rl_storeVar_cells (P := P) ty ie hie b f vs hs h1 w (fun k hk => by
  rw [hB.cell, List.getElem?_toArray, List.getElem?_eq_getElem (by omega)]; rfl) (fun k _ => hB.frozen _)
 unfold Oper.wp execOp
 simp only [ho, hx, hy, Instr.storeAt, Instr.sureAddr, Sem.run_bind, Sem.run_pure, Result.andThen_ok, hrun]
 exact hK _ _ (h _ (Blk.setCells vs f w cs hB hl) (Fr.setCells (T := fun k => k = b) (fun _ => rfl) vs f w (Fr.refl _ w)))
structure ShaTab (w : World) : Prop where
 init : ∀ j u, (stV initS)[j]? = some u → w.cell? ⟨1, j, none⟩ = some u
 kk : ∀ j, j < 64 → w.cell? ⟨2, j, none⟩ = some (u32v (kTab[j]?.getD 0))
theorem ShaTab.fr {w w' : World} {T : Nat → Prop} (h : ShaTab w) (hf : Fr T w w') (h0 : ¬ T 1) (h1 : ¬ T 2) : ShaTab w' :=
 ⟨fun j u hu => hf.cellSome (h.init j u hu) h0, fun j hj => hf.cellSome (h.kk j hj) h1⟩
theorem ShaTab.fr0 {w w' : World} (h : ShaTab w) (hf : Fr Nothing w w') : ShaTab w' := h.fr hf (fun x => x) (fun x => x)
def hashV (n : Nat) (st : St8) (rest : List UInt8) : List Value := [.int .i64 n] ++ stV st ++ rest.map bvI
theorem hashV_length (n : Nat) (st : St8) (rest : List UInt8) (h : rest.length = 64) : (hashV n st rest).length = 73 := by simp [hashV, stV, h]
theorem hashV_state (n : Nat) (st st' : St8) (rest : List UInt8) : (hashV n st rest).take 1 ++ stV st' ++ (hashV n st rest).drop (1 + (stV st').length) = hashV n st' rest := rfl
theorem hashV_count (n m : Nat) (st : St8) (rest : List UInt8) : (hashV n st rest).set 0 (.int .i64 m) = hashV m st rest := rfl
theorem hashV_rest (n : Nat) (st : St8) (rest : List UInt8) (a : Nat) (Y : List UInt8) : (hashV n st rest).take (9 + a) ++ Y.map bvI ++ (hashV n st rest).drop (9 + a + (Y.map bvI).length) = hashV n st (laidOver rest a Y) := by
 have hp : ([Value.int .i64 n] ++ stV st).length = 9 := rfl
 unfold hashV laidOver
 generalize [Value.int .i64 n] ++ stV st = pre at *
 rw [← hp, List.take_length_add_append, Nat.add_assoc, List.drop_length_add_append]
 simp [List.map_take, List.map_drop, List.append_assoc]
theorem hash_cell {w : World} {g n : Nat} {st : St8} {rest : List UInt8} (h : Blk w g 132 (hashV n st rest).toArray) (hr : rest.length = 64) (j : Nat) (hj : j < 64) : w.cell? ⟨g, 9 + j, none⟩ = some (bvI (rest[j]?.getD 0)) := by
 have hp : ([Value.int .i64 n] ++ stV st).length = 9 := rfl
 rw [h.cell, List.getElem?_toArray, hashV, List.getElem?_append_right (by omega), hp, Nat.add_sub_cancel_left, List.getElem?_map, List.getElem?_eq_getElem (by omega)]
 rfl
theorem size_u8 (w : World) : (Go.sizeOf 5).run Tryz.prog w = .ok 1 w := by kernel_rfl
theorem tx_from (t : ByteArray) (n : Nat) : txL (t.extract n t.size) = (txL t).drop n := by
 simp [txL]
 exact List.take_of_length_le (by rw [List.length_drop]; exact Nat.le_refl _)
def strSize : Value → Nat
 | .string t => t.size
 | _ => 0
structure HashAt (w : World) (g : Nat) (M rest : List UInt8) : Prop where
 blk : Blk w g 132 (hashV M.length (runB initS M (M.length / 64)) rest).toArray
 ok : HashOk M rest
def Wrote (w : World) (g : Nat) (M : List UInt8) (e : Ending) (w' : World) : Prop := e = .returned (.int .i64 0) ∧ Fr (fun k => k = g) w w' ∧ ∃ rest, HashAt w' g M rest
theorem info8p : (Tryz.prog.info? 129).map (fun i => (i.zero, i.size, i.bytes)) = some (some (.agg (stV ⟨0, 0, 0, 0, 0, 0, 0, 0⟩).toArray), 8, 32) := by kernel_rfl
theorem isAgg8 (w : World) : (isAgg 129).run Tryz.prog w = .ok true w := by kernel_rfl
set_option maxRecDepth 100000 in
set_option maxHeartbeats 1000000 in
theorem Write_new (s : ByteArray) (g : Nat) (st : St8) (rest : List UInt8) (hrest : rest.length = 64) (w : World) (hH : Blk w g 132 (hashV 0 st rest).toArray) (hT : ShaTab w) (h0 : g ≠ 1) (h1 : g ≠ 2) (hs : s.size ≤ 1099511627776) (hs1 : 1 ≤ s.size) :
  Calls Tryz.prog 70 #[.pointer (some ⟨g, 0, none⟩), .string s] w (Wrote w g (txL s)) := by
 obtain ⟨i8, hi8, _, hz8, _⟩ := info_parts info8p
 have HH := Lib.hid hH
 have HT := Lib.hid hT
 have HR := Lib.hid hrest
 have HNE : Hid (g ≠ 1 ∧ g ≠ 2) := ⟨h0, h1⟩
 have HTX := Lib.hid (txL_length s)
 have c0 : w.cell? ⟨g, 0, none⟩ = some (.int .i64 0) := hH.cell 0
 clear hH hT hrest h0 h1
 generalize hTX : txL s = TX at *
 have HTX0 : Hid (TX = txL s) := hTX.symm
 clear hTX
 go_enter Tryz.func70, Tryz.ntmps70
 go_wp2_with (first | (refine wpList_loadAt rfl 129 (.global 1) rfl 1 0 rfl i8 hi8 isAgg8 (stV initS) hz8.symm (fun k v hv => by rw [Nat.zero_add]; exact HT.out.init k v hv) ?_) | (refine wpList_storeAt rfl 129 _ _ rfl g 1 rfl i8 hi8 (stV initS) rfl hz8.symm ?h1 _ (hashV 0 st rest) HH.out ?h2 ?_))
 case h1 => intro v hv; simp only [stV, List.mem_cons, List.not_mem_nil, or_false] at hv; rcases hv with rfl | rfl | rfl | rfl | rfl | rfl | rfl | rfl <;> rfl
 case h2 => rw [hashV_length _ _ _ HR.out]; simp [stV]
 intro w1 b1 f1
 rw [← List.append_assoc, hashV_state] at b1
 have A1 : Hid (HashAt w1 g [] rest) := ⟨b1, hash_nil rest HR.out⟩
 have F1 := Lib.hid f1
 clear b1 f1 c0 HH HR
 go_wp2
 go_loopw [1] (fun v wr => ∃ t X rest, v = .string t ∧ Hid (TX = X ++ txL t) ∧ t.size ≤ s.size ∧ HashAt wr g X rest ∧ Fr (fun k => k = g) w wr) (fun v _ => strSize v)
 case atStart => exact ⟨s, [], rest, rfl, HTX0.out, Nat.le_refl _, A1.out, F1.out⟩
 case round =>
  obtain ⟨t, X, rest, rfl, HTXX, hts, hA, hF⟩ := hrel
  have KA := Lib.hid hA
  have KF := Lib.hid hF
  have HXL : Hid (X.length + t.size = s.size) := by
   have h := congrArg List.length HTXX.out
   rw [List.length_append, txL_length, HTX.out] at h
   simp only [Hid]; omega
  have hXL : X.length ≤ 1099511627776 := by have := HXL.out; omega
  have c0 : wr.cell? ⟨g, 0, none⟩ = some (.int .i64 (X.length : Nat)) := hA.blk.cell 0
  have f0 : wr.frozen? ⟨g, 0, none⟩ = false := hA.blk.frozen 0
  have KS := Lib.hid (runB_ok initS X initS_ok (X.length / 64))
  clear hA hF A1 F1
  by_cases ht : 1 ≤ t.size
  ·obtain ⟨a, ha⟩ : ∃ a, a = X.length % 64 := ⟨_, rfl⟩
   obtain ⟨n, hn⟩ : ∃ n, n = Nat.min t.size (64 - a) := ⟨_, rfl⟩
   have hn2 : n ≤ t.size ∧ n ≤ 64 - a ∧ (n = t.size ∨ n = 64 - a) := by
    rw [hn]
    rcases Nat.le_total t.size (64 - a) with h | h
    ·rw [show Nat.min t.size (64 - a) = t.size from Nat.min_eq_left h]
     exact ⟨Nat.le_refl _, h, .inl rfl⟩
    ·rw [show Nat.min t.size (64 - a) = 64 - a from Nat.min_eq_right h]
     exact ⟨h, Nat.le_refl _, .inr rfl⟩
   have ha64 : a < 64 := by omega
   have hYl : ((txL t).take n).length = n := by rw [List.length_take, txL_length]; omega
   have hcp := run_copy_str (P := Tryz.prog) wr 28 9 3 5 g (9 + a) (64 - a) (64 - a) t Tryz.underlying28 size_u8 n hn.symm
    (fun j hj => by rw [show 9 + a + j = 9 + (a + j) by omega, hash_cell KA.out.blk KA.out.ok.1 (a + j) (by omega)]; rfl) (fun j hj => KA.out.blk.frozen _)
   have hvs : (t.data.toList.map fun x => Value.int .u8 (x.toNat : Int)).take n = ((txL t).take n).map bvI := by
    rw [← List.map_take]; rfl
   rw [hvs] at hcp
   have B2 := Blk.setCells (((txL t).take n).map bvI) (9 + a) wr _ KA.out.blk (by rw [hashV_length _ _ _ KA.out.ok.1, List.length_map, hYl]; omega)
   rw [hashV_rest] at B2
   have F2 := Fr.setCells (T := fun k => k = g) (a := w) (fun _ => rfl) (((txL t).take n).map bvI) (9 + a) wr KF.out
   have HB2 := Lib.hid B2
   have HF2 := Lib.hid F2
   have HA := Lib.hid ha
   have HY := Lib.hid hYl
   have HT2 : Hid (TX = (X ++ (txL t).take n) ++ txL (t.extract n t.size)) := by
    simp only [Hid]
    rw [tx_from, List.append_assoc, List.take_append_drop]
    exact HTXX.out
   have HTS : Hid ((t.extract n t.size).size = t.size - n) := by simp only [Hid]; simp
   generalize wr.setCells g (9 + a) (((txL t).take n).map bvI) = w2 at *
   generalize hY : (txL t).take n = Y at *
   clear B2 F2 hvs hY
   have KT : Hid (ShaTab w2) := HT.out.fr HF2.out (fun e => HNE.out.1 e.symm) (fun e => HNE.out.2 e.symm)
   have d0 : w2.cell? ⟨g, 0, none⟩ = some (.int .i64 (X.length : Nat)) := HB2.out.cell 0
   have e0 : w2.frozen? ⟨g, 0, none⟩ = false := HB2.out.frozen 0
   have HB3 : Hid (Blk (w2.setCell ⟨g, 0, none⟩ (.int .i64 ((X.length + n : Nat) : Int))) g 132 (hashV (X.length + n) (runB initS X (X.length / 64)) (laidOver rest a Y)).toArray) := by
    have h := HB2.out.set_ 0 (.int .i64 ((X.length + n : Nat) : Int))
    rw [List.setIfInBounds_toArray, hashV_count] at h
    exact h
   have HF3 : Hid (Fr (fun k => k = g) w (w2.setCell ⟨g, 0, none⟩ (.int .i64 ((X.length + n : Nat) : Int)))) := HF2.out.setCell (p := ⟨g, 0, none⟩) (fun _ => rfl) _
   have u1 : ((X.length : Nat) : Int) % 64 = (a : Int) := by rw [ha]; omega
   have u1' : ((X.length : Nat) : Int).tmod 64 = (a : Int) := by rw [Int.tmod_eq_emod_of_nonneg (by omega)]; exact u1
   have u2 : (a : Int) ≤ 64 := by omega
   have u3 : (n : Int) ≤ (t.size : Int) := by omega
   have u4 : IntKind.i64.wrap (((X.length : Nat) : Int) + (n : Int)) = ((X.length + n : Nat) : Int) := (IntWalk.i64_in _ (by omega)).trans (by omega)
   have u5 : ((X.length : Nat) : Int) + (n : Int) = ((X.length + n : Nat) : Int) := by omega
   have ht' : (0 : Int) < (t.size : Int) := by omega
   have HMORE : Hid (a + n < 64 → HashAt (w2.setCell ⟨g, 0, none⟩ (.int .i64 ((X.length + n : Nat) : Int))) g (X ++ Y) (laidOver rest a Y)) := by
    intro h
    obtain ⟨h1, h2⟩ := hash_more (X := Y) KA.out.ok (by rw [HY.out, ← HA.out]; exact h)
    rw [← HA.out] at h1
    refine ⟨?_, h1⟩
    rw [h2, List.length_append, HY.out]
    exact HB3.out
   have HFULL : Hid (a + n = 64 → HashOk (X ++ Y) (laidOver rest a Y) ∧ runB initS (X ++ Y) ((X ++ Y).length / 64) = blockS (runB initS X (X.length / 64)) (laidOver rest a Y) ∧ (X ++ Y).length = X.length + n) := by
    intro h
    obtain ⟨h1, h2⟩ := hash_full (X := Y) KA.out.ok (by rw [HY.out, ← HA.out]; exact h)
    rw [← HA.out] at h1 h2
    exact ⟨h1, h2, by rw [List.length_append, HY.out]⟩
   have HRL : Hid ((laidOver rest a Y).length = 64) := laidOver_length KA.out.ok.1 (by rw [HY.out]; omega)
   generalize laidOver rest a Y = R2 at *
   generalize runB initS X (X.length / 64) = ST at *
   generalize X.length = L at *
   clear KA KF HT hn ha HXL u1' u5
   by_cases hfull : a + n = 64
   ·have tb : (((a : Int) + (n : Int)) == 64) = true := by rw [beq_iff_eq]; omega
    have HF := Lib.hid (HFULL.out hfull)
    have KT3 : Hid (ShaTab (w2.setCell ⟨g, 0, none⟩ (.int .i64 ((L + n : Nat) : Int)))) := KT.out.fr ((Fr.refl (fun k => k = g) w2).setCell (p := ⟨g, 0, none⟩) (fun _ => rfl) _) (fun e => HNE.out.1 e.symm) (fun e => HNE.out.2 e.symm)
    clear HMORE HFULL
    go_wp2
    rw [show (L : Int) + (n : Int) = ((L + n : Nat) : Int) by omega]
    generalize w2.setCell ⟨g, 0, none⟩ (.int .i64 ((L + n : Nat) : Int)) = w3 at *
    have CC := Lib.hid (compress_any g 1 g 9 132 [.int .i64 (L + n : Nat)] (R2.map bvI) ST KS.out R2 w3.drew HB3.out.drew rfl (fun j hj => hash_cell HB3.out.drew HRL.out j hj) KT3.out.kk)
    generalize blockS ST R2 = S2 at *
    clear c0 f0 d0 e0 hcp
    go_still_tail 6, (by kernel_rfl)
    change wpList _ _ _ _ _ w3.drew
    go_wp2_with fail
    refine CC.out.mono ?_
    rintro e w4 ⟨rfl, f4, b4⟩
    have HM : Hid (HashAt w4 g (X ++ Y) R2) := by
     obtain ⟨h1, h2, h3⟩ := HF.out
     refine ⟨?_, h1⟩
     rw [h2, h3]
     exact b4
    have HF4 : Hid (Fr (fun k => k = g) w w4) := HF3.out.drew.trans f4
    clear f4 b4 CC HB3 HF3
    go_wp2
    go_roundw
    case rel => exact ⟨t.extract n t.size, X ++ Y, R2, rfl, HT2.out, by have := HTS.out; omega, HM.out, HF4.out⟩
    case measure => have := HTS.out; simp only [strSize]; omega
   ·have tb : (((a : Int) + (n : Int)) == 64) = false := by rw [beq_eq_false_iff_ne]; omega
    have HM := Lib.hid (HMORE.out (by omega))
    clear HMORE HFULL
    go_wp2
    go_roundw
    case rel => exact ⟨t.extract n t.size, X ++ Y, R2, rfl, HT2.out, by have := HTS.out; omega, HM.out, HF3.out⟩
    case measure => have := HTS.out; simp only [strSize]; omega
  ·have h0 : t.size = 0 := by omega
   have hdt : decide ((0 : Int) < (t.size : Int)) = false := decide_eq_false (by omega)
   have hdn : decide (0 < t.size) = false := decide_eq_false (by omega)
   have hX : TX = X := by
    rw [HTXX.out]
    have : txL t = [] := List.eq_nil_of_length_eq_zero (by rw [txL_length]; exact h0)
    rw [this, List.append_nil]
   have HX := Lib.hid hX
   clear hX h0
   go_wp2
   go_ret
   refine ⟨rfl, KF.out, rest, ?_⟩
   rw [HX.out]
   exact KA.out
end Go.Proofs.YtpnchdgplpdefaaGreatDoor
namespace Go.Proofs.YtpnchdgplpdefaaGreatDoor
open Go.RowKit
theorem info64 : (Tryz.prog.info? 155).map (·.size) = some 64 := by kernel_rfl
set_option maxRecDepth 100000 in
set_option maxHeartbeats 1000000 in
theorem schedule_any (bb ob c : Nat) (b : List UInt8) (w : World) (hB : ∀ j, j < 64 → w.cell? ⟨bb, ob + j, none⟩ = some (bvI (b[j]?.getD 0))) :
  Calls Tryz.prog 93 #[.slice (some ⟨bb, ob, none⟩) 64 c] w (Same' w (.agg ((schedL b 64).map u32v).toArray)) := by
 have HB := Lib.hid hB
 clear hB
 go_enter Tryz.func93, Tryz.ntmps93
 go_upto_region 1 with fail
 generalize hw : w.alloc _ = w1
 obtain ⟨cs, hcs, hB⟩ : ∃ cs : Array Value, cs.size = 64 ∧ Blk w1 w.heap.size 155 cs := ⟨_, rfl, by rw [← hw]; exact Blk.new w _ _⟩
 have HF : Hid (Fr Nothing w w1) := by rw [← hw]; exact (Fr.refl _ _).alloc _
 have HR := Lib.hid hB
 have HC := Lib.hid hcs
 clear hw hB hcs
 generalize hg : w.heap.size = g0 at *
 have HG := Lib.hid hg
 clear hg
 go_upto_region 2 with fail
 generalize hw : w1.alloc _ = w2
 have HS : Hid (SchedW w1 w2 w1.heap.size (schedL b 0)) := by rw [← hw]; exact ⟨(Fr.refl _ _).alloc _, rfl, Blk.new _ _ _⟩
 clear hw
 generalize w1.heap.size = g at *
 go_wp2
 go_loopw [4] (fun i wr => ∃ k : Nat, k ≤ 64 ∧ i = .int .i64 k ∧ SchedW w1 wr g (schedL b k)) (fun i _ => 64 - (intOf i).toNat)
 case atStart => exact ⟨0, by omega, rfl, HS.out⟩
 case round =>
  obtain ⟨k, hk, rfl, hw⟩ := hrel
  have HW := Lib.hid hw
  clear hw HS
  by_cases hk64 : k < 64
  ·have hkI : (k : Int) < 64 := by omega
   by_cases hk16 : k < 16
   ·as_aux_lemma =>
     have c0 : ∀ j, j < 64 → wr.drew.cell? ⟨bb, ob + j, none⟩ = some (bvI (b[j]?.getD 0)) := fun j hj => (HF.out.trans HW.out.1).cellSome (HB.out j hj) (fun x => x)
     have e0 := c0 (4 * k) (by omega)
     have e1 := c0 (4 * k + 1) (by omega)
     have e2 := c0 (4 * k + 2) (by omega)
     have e3 := c0 (4 * k + 3) (by omega)
     have hx : wAt b k = word4 ((b[4 * k]?.getD 0).toNat) ((b[4 * k + 1]?.getD 0).toNat) ((b[4 * k + 2]?.getD 0).toNat) ((b[4 * k + 3]?.getD 0).toNat) := rfl
     have b0 := (b[4 * k]?.getD 0).toNat_lt
     have b1 := (b[4 * k + 1]?.getD 0).toNat_lt
     have b2 := (b[4 * k + 2]?.getD 0).toNat_lt
     have b3 := (b[4 * k + 3]?.getD 0).toNat_lt
     unfold bvI at e0 e1 e2 e3
     generalize (b[4 * k]?.getD 0).toNat = x0 at *
     generalize (b[4 * k + 1]?.getD 0).toNat = x1 at *
     generalize (b[4 * k + 2]?.getD 0).toNat = x2 at *
     generalize (b[4 * k + 3]?.getD 0).toNat = x3 at *
     have HX := Lib.hid hx
     clear hx c0
     have m0 : IntKind.i64.wrap (4 * (k : Int)) = ((4 * k : Nat) : Int) := (IntWalk.i64_in _ (by omega)).trans (by omega)
     have m1 : IntKind.i64.wrap (((4 * k : Nat) : Int) + 1) = ((4 * k + 1 : Nat) : Int) := (IntWalk.i64_in _ (by omega)).trans (by omega)
     have m2 : IntKind.i64.wrap (((4 * k : Nat) : Int) + 2) = ((4 * k + 2 : Nat) : Int) := (IntWalk.i64_in _ (by omega)).trans (by omega)
     have m3 : IntKind.i64.wrap (((4 * k : Nat) : Int) + 3) = ((4 * k + 3 : Nat) : Int) := (IntWalk.i64_in _ (by omega)).trans (by omega)
     have q0 : ((4 * k : Nat) : Int) < 64 := by omega
     have q1 : ((4 * k + 1 : Nat) : Int) < 64 := by omega
     have q2 : ((4 * k + 2 : Nat) : Int) < 64 := by omega
     have q3 : ((4 * k + 3 : Nat) : Int) < 64 := by omega
     have hk16I : (k : Int) < 16 := by omega
     generalize 4 * k + 1 = i1 at *
     generalize 4 * k + 2 = i2 at *
     generalize 4 * k + 3 = i3 at *
     generalize 4 * k = i0 at *
     have w0 : IntKind.u32.wrap (x0 : Int) = (x0 : Int) := IntWalk.u32_in _ (by omega)
     have w1 : IntKind.u32.wrap (x1 : Int) = (x1 : Int) := IntWalk.u32_in _ (by omega)
     have w2 : IntKind.u32.wrap (x2 : Int) = (x2 : Int) := IntWalk.u32_in _ (by omega)
     have w3 : IntKind.u32.wrap (x3 : Int) = (x3 : Int) := IntWalk.u32_in _ (by omega)
     obtain ⟨p0, p1, p2, s1, s2, y0, y1, y2, z1, z2, z3⟩ := word_sums x0 x1 x2 x3 b0 b1 b2 b3
     rw [← HX.out] at z3
     obtain ⟨uk, huk⟩ := HW.out.at_ (k := k) (by omega)
     have huk2 : wr.drew.cell? ⟨g, k, none⟩ = some uk := huk
     have hfr : wr.drew.frozen? ⟨g, k, none⟩ = false := HW.out.2.2.frozen k
     clear huk
     go_wp2
     go_still_tail 35, (by kernel_rfl)
     change wpList _ _ _ _ _ wr.drew
     go_wp2
     go_roundw
     case rel =>
      refine ⟨k + 1, by omega, by go_num, ?_⟩
      have h := HW.out.drew.put (schedL_length b k) (by omega) (wAt b k)
      have e : schedL b (k + 1) = schedL b k ++ [wAt b k] := by simp [schedL, hk16]
      rw [e]
      exact h
     case measure => simp [intOf]; omega
   ·as_aux_lemma =>
     have hd16 : decide ((k : Int) < 16) = false := by simp; omega
     have hl : (schedL b k).length = k := schedL_length b k
     have c15 := HW.out.get (k := k - 15) (by omega)
     have c2 := HW.out.get (k := k - 2) (by omega)
     have m15 : IntKind.i64.wrap ((k : Int) - 15) = ((k - 15 : Nat) : Int) := (IntWalk.i64_in _ (by omega)).trans (by omega)
     have m2 : IntKind.i64.wrap ((k : Int) - 2) = ((k - 2 : Nat) : Int) := (IntWalk.i64_in _ (by omega)).trans (by omega)
     have q15 : ((k - 15 : Nat) : Int) < 64 := by omega
     have q2 : ((k - 2 : Nat) : Int) < 64 := by omega
     obtain ⟨x15, hx15⟩ : ∃ x, x = (schedL b k)[k - 15]?.getD 0 := ⟨_, rfl⟩
     obtain ⟨x2, hx2⟩ : ∃ x, x = (schedL b k)[k - 2]?.getD 0 := ⟨_, rfl⟩
     obtain ⟨i15, hi15⟩ : ∃ x, x = k - 15 := ⟨_, rfl⟩
     obtain ⟨i2, hi2⟩ : ∃ x, x = k - 2 := ⟨_, rfl⟩
     rw [← hx15] at c15
     rw [← hx2] at c2
     rw [← hi15] at c15 m15 q15
     rw [← hi2] at c2 m2 q2
     unfold u32v at c15 c2
     have HL := Lib.hid hl
     have HX15 := Lib.hid hx15
     have HX2 := Lib.hid hx2
     clear hl hx15 hx2 hi15 hi2
     go_wp2
     go_quiet (fail)
     have L15 : x15 < 4294967296 := sched_lt _ _ _ _ HX15.out
     have L2 : x2 < 4294967296 := sched_lt _ _ _ _ HX2.out
     obtain ⟨r1, r2, r3⟩ := sig0_steps x15 L15
     obtain ⟨r4, r5, r6⟩ := sig1_steps x2 L2
     have V0 := Lib.hid (HW.out.drewN nq)
     clear HW c15 c2
     generalize wr.drewN nq = y0 at *
     go_wp2_with fail
     refine (turn_any 7 x15 _ (by omega) (by omega) L15).mono ?_
     rintro e y1 ⟨rfl, n1, rfl⟩
     have V1 := Lib.hid (V0.out.drewN n1)
     generalize y0.drewN n1 = y1 at *
     go_wp2_with fail
     refine (turn_any 18 x15 _ (by omega) (by omega) L15).mono ?_
     rintro e y2 ⟨rfl, n2, rfl⟩
     have V2 := Lib.hid (V1.out.drewN n2)
     generalize y1.drewN n2 = y2 at *
     go_wp2_with fail
     refine (turn_any 17 x2 _ (by omega) (by omega) L2).mono ?_
     rintro e y3 ⟨rfl, n3, rfl⟩
     have V3 := Lib.hid (V2.out.drewN n3)
     generalize y2.drewN n3 = y3 at *
     go_wp2_with fail
     refine (turn_any 19 x2 _ (by omega) (by omega) L2).mono ?_
     rintro e y4 ⟨rfl, n4, rfl⟩
     have V4 := Lib.hid (V3.out.drewN n4).drew
     generalize y3.drewN n4 = wz at *
     clear V0 V1 V2 V3
     have c16 := V4.out.get (k := k - 16) (by rw [HL.out]; omega)
     have c7 := V4.out.get (k := k - 7) (by rw [HL.out]; omega)
     have m16 : IntKind.i64.wrap ((k : Int) - 16) = ((k - 16 : Nat) : Int) := (IntWalk.i64_in _ (by omega)).trans (by omega)
     have m7 : IntKind.i64.wrap ((k : Int) - 7) = ((k - 7 : Nat) : Int) := (IntWalk.i64_in _ (by omega)).trans (by omega)
     have q16 : ((k - 16 : Nat) : Int) < 64 := by omega
     have q7 : ((k - 7 : Nat) : Int) < 64 := by omega
     obtain ⟨x16, hx16⟩ : ∃ x, x = (schedL b k)[k - 16]?.getD 0 := ⟨_, rfl⟩
     obtain ⟨x7, hx7⟩ : ∃ x, x = (schedL b k)[k - 7]?.getD 0 := ⟨_, rfl⟩
     obtain ⟨i16, hi16⟩ : ∃ x, x = k - 16 := ⟨_, rfl⟩
     obtain ⟨i7, hi7⟩ : ∃ x, x = k - 7 := ⟨_, rfl⟩
     rw [← hx16] at c16
     rw [← hx7] at c7
     rw [← hi16] at c16 m16 q16
     rw [← hi7] at c7 m7 q7
     unfold u32v at c16 c7
     have HX16 := Lib.hid hx16
     have HX7 := Lib.hid hx7
     clear hx16 hx7 hi16 hi7
     have a1 := wrap_add32 x16 (sig0 x15)
     have a2 := wrap_add32 (add32 x16 (sig0 x15)) x7
     have a3 := wrap_add32 (add32 (add32 x16 (sig0 x15)) x7) (sig1 x2)
     obtain ⟨uk, huk⟩ := V4.out.at_ (k := k) (by omega)
     have hfr := V4.out.2.2.frozen k
     go_wp2
     go_still_tail 15, (by kernel_rfl)
     change wpList _ _ _ _ _ wz.drew
     go_wp2
     go_roundw
     case rel =>
      refine ⟨k + 1, by omega, by go_num, ?_⟩
      have h := V4.out.put HL.out hk64 (add32 (add32 (add32 x16 (sig0 x15)) x7) (sig1 x2))
      have e : schedL b (k + 1) = schedL b k ++ [add32 (add32 (add32 x16 (sig0 x15)) x7) (sig1 x2)] := by
       rw [schedL, if_neg (by omega), HX16.out, HX15.out, HX7.out, HX2.out]
      rw [e]
      exact h
     case measure => simp [intOf]; omega
  ·have hd64 : decide ((k : Int) < 64) = false := by simp; omega
   rw [show k = 64 by omega] at HW
   obtain ⟨KA, hKA⟩ : ∃ KA, KA = ((schedL b 64).map u32v).toArray := ⟨_, rfl⟩
   have hlen : KA.size = 64 := by rw [hKA]; simp [schedL_length]
   have hone : KA.all (·.oneCell') = true := by
    rw [hKA, Array.all_eq_true_iff_forall_mem]
    intro v hv
    simp only [List.mem_toArray, List.mem_map] at hv
    obtain ⟨x, _, rfl⟩ := hv
    rfl
   have hSB : Blk wr g 155 KA := by
    have := HW.out.2.2
    rw [schedL_length] at this
    simpa [hKA] using this
   have HKA := Lib.hid hKA
   have R2 := Lib.hid (HR.out.fr HW.out.1 (fun x => x))
   have F2 := Lib.hid (HF.out.trans HW.out.1)
   have HSB := Lib.hid hSB
   have HI : Hid ((Tryz.prog.info? 155).map (·.size) = some KA.size) := by
    rw [hlen]
    exact info64
   have HLN := Lib.hid hlen
   have HON := Lib.hid hone
   clear hSB hKA hlen hone HW
   go_wp2_with (first | (refine wpList_load_row rfl 155 _ rfl _ rfl _ KA _ _ HSB.out Tryz.underlying155 rfl HI.out ?_) | (refine wpList_store_row rfl 155 _ _ rfl _ KA rfl rfl _ _ R2.out HI.out (by rw [HC.out, HLN.out]) HON.out ?_))
   have HB2 := Lib.hid (heap_setRow_same (cs := KA) R2.out)
   have HF2 : Hid (Fr Nothing w (wr.setRow g0 KA)) := F2.out.setRow (fun h => by have := HG.out; omega) KA
   exact bodyPost_ret (results_cell_row (fn := Tryz.f93) (p := 2) (ty := 155) Tryz.results93 _ (wr.setRow g0 KA) g0 155 KA (0, 0) _ rfl HB2.out Tryz.underlying155 rfl HI.out) rfl ⟨by rw [HKA.out], HF2.out⟩
end Go.Proofs.YtpnchdgplpdefaaGreatDoor
