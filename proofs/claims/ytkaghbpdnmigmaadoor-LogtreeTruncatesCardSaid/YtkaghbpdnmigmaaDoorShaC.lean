/- sha256.Hash: Write to a new Hash. -/
import Derived.Test.YtkaghbpdnmigmaaDoorShaB
import Derived.Test.YtkaghbpdnmigmaaDoorGwA
import Derived.Test.YtkaghbpdnmigmaaDoorGwC
import Derived.Deep.DeepCutAuto
namespace Go.Proofs.YtkaghbpdnmigmaaDoor
open Go.RowKit

theorem wpList_loadAt {P : Program} {ops : Array Oper} {rest : List Oper} {o : Oper} {a : Act} {w : World} {Q : Exit → Act → World → Prop} (hgd : o.guard = none) (ty : TypeId) (x : Operand) (ho : o.op = .load ty x)
    (b f : Nat) (hx : a.eval x = .pointer (some ⟨b, f, none⟩)) (ie : TypeInfo) (hie : P.info? ty = some ie) (hagg : ∀ w, (isAgg ty).run P w = .ok true w) (vs : List Value) (hs : vs.length = ie.size)
    (hc : ∀ k v, vs[k]? = some v → w.cell? ⟨b, f + k, none⟩ = some v)
    (h : wpList P ops Q rest (a.put o.dst (.agg vs.toArray)) w) : wpList P ops Q (o :: rest) a w := by
  refine wpList_plain hgd fun K hK => ?_
  unfold Oper.wp execOp
  simp only [ho, hx, Instr.loadAt, Instr.sureAddr, Sem.run_bind, Sem.run_pure, Result.andThen_ok, Lib.rl_loadVar_cells ty ie hie hagg b f vs hs w hc]
  exact hK _ _ h

theorem wpList_storeAt {P : Program} {ops : Array Oper} {rest : List Oper} {o : Oper} {a : Act} {w : World} {Q : Exit → Act → World → Prop} (hgd : o.guard = none) (ty : TypeId) (x y : Operand) (ho : o.op = .store ty x y)
    (b f : Nat) (hx : a.eval x = .pointer (some ⟨b, f, none⟩)) (ie : TypeInfo) (hie : P.info? ty = some ie) (vs : List Value) (hy : a.eval y = .agg vs.toArray) (hs : vs.length = ie.size) (h1 : ∀ v ∈ vs, v.oneCell' = true)
    (t : TypeId) (cs : List Value) (hB : Blk w b t cs.toArray) (hl : f + vs.length ≤ cs.length)
    (h : ∀ w', Blk w' b t (cs.take f ++ vs ++ cs.drop (f + vs.length)).toArray → Fr (fun k => k = b) w w' → wpList P ops Q rest (a.put o.dst undef) w') : wpList P ops Q (o :: rest) a w := by
  refine wpList_plain hgd fun K hK => ?_
  have hrun := Lib.rl_storeVar_cells (P := P) ty ie hie b f vs hs h1 w (fun k hk => by
    rw [hB.cell, List.getElem?_toArray, List.getElem?_eq_getElem (by omega)]; rfl) (fun k _ => hB.frozen _)
  unfold Oper.wp execOp
  simp only [ho, hx, hy, Instr.storeAt, Instr.sureAddr, Sem.run_bind, Sem.run_pure, Result.andThen_ok, hrun]
  exact hK _ _ (h _ (Blk.setCells vs f w cs hB hl) (Fr.setCells (T := fun k => k = b) (fun _ => rfl) vs f w (Fr.refl _ w)))

/-- The two tables of package sha256. -/
structure ShaTab (w : World) : Prop where
  init : ∀ j u, (stV initS)[j]? = some u → w.cell? ⟨0, j, none⟩ = some u
  kk : ∀ j, j < 64 → w.cell? ⟨1, j, none⟩ = some (u32v (kTab[j]?.getD 0))
theorem ShaTab.fr {w w' : World} {T : Nat → Prop} (h : ShaTab w) (hf : Fr T w w') (h0 : ¬ T 0) (h1 : ¬ T 1) : ShaTab w' :=
  ⟨fun j u hu => hf.cellSome (h.init j u hu) h0, fun j hj => hf.cellSome (h.kk j hj) h1⟩
theorem ShaTab.fr0 {w w' : World} (h : ShaTab w) (hf : Fr Nothing w w') : ShaTab w' := h.fr hf (fun x => x) (fun x => x)

def hashV (n : Nat) (st : St8) (rest : List UInt8) : List Value := [.int .i64 n] ++ stV st ++ rest.map bvI
theorem hashV_length (n : Nat) (st : St8) (rest : List UInt8) (h : rest.length = 64) : (hashV n st rest).length = 73 := by simp [hashV, stV, h]

theorem hashV_state (n : Nat) (st st' : St8) (rest : List UInt8) : (hashV n st rest).take 1 ++ stV st' ++ (hashV n st rest).drop (1 + (stV st').length) = hashV n st' rest := rfl
theorem hashV_count (n m : Nat) (st : St8) (rest : List UInt8) : (hashV n st rest).set 0 (.int .i64 m) = hashV m st rest := rfl
theorem hashV_rest (n : Nat) (st : St8) (rest : List UInt8) (a : Nat) (Y : List UInt8) : (hashV n st rest).take (9 + a) ++ Y.map bvI ++ (hashV n st rest).drop (9 + a + (Y.map bvI).length) = hashV n st (laidOver rest a Y) := by
  have hp : ([Value.int .i64 n] ++ stV st).length = 9 := rfl
  unfold hashV laidOver
  generalize [Value.int .i64 n] ++ stV st = pre at *
  rw [← hp, List.take_length_add_append, Nat.add_assoc, List.drop_length_add_append]
  simp [List.map_take, List.map_drop, List.append_assoc]
theorem hash_cell {w : World} {g n : Nat} {st : St8} {rest : List UInt8} (h : Blk w g 131 (hashV n st rest).toArray) (hr : rest.length = 64) (j : Nat) (hj : j < 64) : w.cell? ⟨g, 9 + j, none⟩ = some (bvI (rest[j]?.getD 0)) := by
  have hp : ([Value.int .i64 n] ++ stV st).length = 9 := rfl
  rw [h.cell, List.getElem?_toArray, hashV, List.getElem?_append_right (by omega), hp, Nat.add_sub_cancel_left, List.getElem?_map, List.getElem?_eq_getElem (by omega)]
  rfl

theorem size_u8 (w : World) : (Go.sizeOf 5).run Tryd.prog w = .ok 1 w := by kernel_rfl
theorem tx_from (t : ByteArray) (n : Nat) : txL (t.extract n t.size) = (txL t).drop n := by
  simp [txL]
  exact List.take_of_length_le (by rw [List.length_drop]; exact Nat.le_refl _)

def strSize : Value → Nat
  | .string t => t.size
  | _ => 0

structure HashAt (w : World) (g : Nat) (M rest : List UInt8) : Prop where
  blk : Blk w g 131 (hashV M.length (runB initS M (M.length / 64)) rest).toArray
  ok : HashOk M rest

def Wrote (w : World) (g : Nat) (M : List UInt8) (e : Ending) (w' : World) : Prop := e = .returned (.int .i64 0) ∧ Fr (fun k => k = g) w w' ∧ ∃ rest, HashAt w' g M rest

theorem info8p : (Tryd.prog.info? 97).map (fun i => (i.zero, i.size, i.bytes)) = some (some (.agg (stV ⟨0, 0, 0, 0, 0, 0, 0, 0⟩).toArray), 8, 32) := by kernel_rfl
theorem isAgg8 (w : World) : (isAgg 97).run Tryd.prog w = .ok true w := by kernel_rfl

set_option maxRecDepth 100000 in
set_option maxHeartbeats 1000000 in
theorem Write_new (s : ByteArray) (g : Nat) (st : St8) (rest : List UInt8) (hrest : rest.length = 64) (w : World) (hH : Blk w g 131 (hashV 0 st rest).toArray) (hT : ShaTab w) (h0 : g ≠ 0) (h1 : g ≠ 1) (hs : s.size ≤ 1099511627776) (hs1 : 1 ≤ s.size) :
    Calls Tryd.prog 82 #[.pointer (some ⟨g, 0, none⟩), .string s] w (Wrote w g (txL s)) := by
  obtain ⟨i8, hi8, _, hz8, _⟩ := info_parts info8p
  have HH := Lib.hid hH
  have HT := Lib.hid hT
  have HR := Lib.hid hrest
  have HNE : Hid (g ≠ 0 ∧ g ≠ 1) := ⟨h0, h1⟩
  have HTX := Lib.hid (txL_length s)
  have c0 : w.cell? ⟨g, 0, none⟩ = some (.int .i64 0) := hH.cell 0
  clear hH hT hrest h0 h1
  generalize hTX : txL s = TX at *
  have HTX0 : Hid (TX = txL s) := hTX.symm
  clear hTX
  go_enter Tryd.func82, Tryd.ntmps82
  go_wp2_with (first | (refine wpList_loadAt rfl 97 (.global 0) rfl 0 0 rfl i8 hi8 isAgg8 (stV initS) hz8.symm (fun k v hv => by rw [Nat.zero_add]; exact HT.out.init k v hv) ?_) | (refine wpList_storeAt rfl 97 _ _ rfl g 1 rfl i8 hi8 (stV initS) rfl hz8.symm ?h1 _ (hashV 0 st rest) HH.out ?h2 ?_))
  case h1 => intro v hv; simp only [stV, List.mem_cons, List.not_mem_nil, or_false] at hv; rcases hv with rfl | rfl | rfl | rfl | rfl | rfl | rfl | rfl <;> rfl
  case h2 => rw [hashV_length _ _ _ HR.out]; simp [stV]
  intro w1 b1 f1
  rw [← List.append_assoc, hashV_state] at b1
  have A1 : Hid (HashAt w1 g [] rest) := ⟨b1, hash_nil rest HR.out⟩
  have F1 := Lib.hid f1
  clear b1 f1 c0 HH HR
  go_wp2
  go_loopw [1] (fun v wr => ∃ t X rest, v = .string t ∧ Hid (TX = X ++ txL t) ∧ t.size ≤ s.size ∧ HashAt wr g X rest ∧ Fr (fun k => k = g) w wr) (fun v _ => strSize v)
  case atStart => exact ⟨s, [], rest, rfl, HTX0.out, Nat.le_refl _, A1.out, F1.out⟩
  case round =>
    obtain ⟨t, X, rest, rfl, HTXX, hts, hA, hF⟩ := hrel
    have KA := Lib.hid hA
    have KF := Lib.hid hF
    have HXL : Hid (X.length + t.size = s.size) := by
      have h := congrArg List.length HTXX.out
      rw [List.length_append, txL_length, HTX.out] at h
      simp only [Hid]; omega
    have hXL : X.length ≤ 1099511627776 := by have := HXL.out; omega
    have c0 : wr.cell? ⟨g, 0, none⟩ = some (.int .i64 (X.length : Nat)) := hA.blk.cell 0
    have f0 : wr.frozen? ⟨g, 0, none⟩ = false := hA.blk.frozen 0
    have KS := Lib.hid (runB_ok initS X initS_ok (X.length / 64))
    clear hA hF A1 F1
    by_cases ht : 1 ≤ t.size
    · obtain ⟨a, ha⟩ : ∃ a, a = X.length % 64 := ⟨_, rfl⟩
      obtain ⟨n, hn⟩ : ∃ n, n = Nat.min t.size (64 - a) := ⟨_, rfl⟩
      have hn2 : n ≤ t.size ∧ n ≤ 64 - a ∧ (n = t.size ∨ n = 64 - a) := by
        rw [hn]
        rcases Nat.le_total t.size (64 - a) with h | h
        · rw [show Nat.min t.size (64 - a) = t.size from Nat.min_eq_left h]
          exact ⟨Nat.le_refl _, h, .inl rfl⟩
        · rw [show Nat.min t.size (64 - a) = 64 - a from Nat.min_eq_right h]
          exact ⟨h, Nat.le_refl _, .inr rfl⟩
      have ha64 : a < 64 := by omega
      have hYl : ((txL t).take n).length = n := by rw [List.length_take, txL_length]; omega
      have hcp := run_copy_str (P := Tryd.prog) wr 79 9 3 5 g (9 + a) (64 - a) (64 - a) t Tryd.underlying79 size_u8 n hn.symm
        (fun j hj => by rw [show 9 + a + j = 9 + (a + j) by omega, hash_cell KA.out.blk KA.out.ok.1 (a + j) (by omega)]; rfl) (fun j hj => KA.out.blk.frozen _)
      have hvs : (t.data.toList.map fun x => Value.int .u8 (x.toNat : Int)).take n = ((txL t).take n).map bvI := by
        rw [← List.map_take]; rfl
      rw [hvs] at hcp
      have B2 := Blk.setCells (((txL t).take n).map bvI) (9 + a) wr _ KA.out.blk (by rw [hashV_length _ _ _ KA.out.ok.1, List.length_map, hYl]; omega)
      rw [hashV_rest] at B2
      have F2 := Fr.setCells (T := fun k => k = g) (a := w) (fun _ => rfl) (((txL t).take n).map bvI) (9 + a) wr KF.out
      have HB2 := Lib.hid B2
      have HF2 := Lib.hid F2
      have HA := Lib.hid ha
      have HY := Lib.hid hYl
      have HT2 : Hid (TX = (X ++ (txL t).take n) ++ txL (t.extract n t.size)) := by
        simp only [Hid]
        rw [tx_from, List.append_assoc, List.take_append_drop]
        exact HTXX.out
      have HTS : Hid ((t.extract n t.size).size = t.size - n) := by simp only [Hid]; simp
      generalize wr.setCells g (9 + a) (((txL t).take n).map bvI) = w2 at *
      generalize hY : (txL t).take n = Y at *
      clear B2 F2 hvs hY
      have KT : Hid (ShaTab w2) := HT.out.fr HF2.out (fun e => HNE.out.1 e.symm) (fun e => HNE.out.2 e.symm)
      have d0 : w2.cell? ⟨g, 0, none⟩ = some (.int .i64 (X.length : Nat)) := HB2.out.cell 0
      have e0 : w2.frozen? ⟨g, 0, none⟩ = false := HB2.out.frozen 0
      have HB3 : Hid (Blk (w2.setCell ⟨g, 0, none⟩ (.int .i64 ((X.length + n : Nat) : Int))) g 131 (hashV (X.length + n) (runB initS X (X.length / 64)) (laidOver rest a Y)).toArray) := by
        have h := HB2.out.set_ 0 (.int .i64 ((X.length + n : Nat) : Int))
        rw [List.setIfInBounds_toArray, hashV_count] at h
        exact h
      have HF3 : Hid (Fr (fun k => k = g) w (w2.setCell ⟨g, 0, none⟩ (.int .i64 ((X.length + n : Nat) : Int)))) := HF2.out.setCell (p := ⟨g, 0, none⟩) (fun _ => rfl) _
      have u1 : ((X.length : Nat) : Int) % 64 = (a : Int) := by rw [ha]; omega
      have u1' : ((X.length : Nat) : Int).tmod 64 = (a : Int) := by rw [Int.tmod_eq_emod_of_nonneg (by omega)]; exact u1
      have u2 : (a : Int) ≤ 64 := by omega
      have u3 : (n : Int) ≤ (t.size : Int) := by omega
      have u4 : IntKind.i64.wrap (((X.length : Nat) : Int) + (n : Int)) = ((X.length + n : Nat) : Int) := (IntWalk.i64_in _ (by omega)).trans (by omega)
      have u5 : ((X.length : Nat) : Int) + (n : Int) = ((X.length + n : Nat) : Int) := by omega
      have ht' : (0 : Int) < (t.size : Int) := by omega
      have HMORE : Hid (a + n < 64 → HashAt (w2.setCell ⟨g, 0, none⟩ (.int .i64 ((X.length + n : Nat) : Int))) g (X ++ Y) (laidOver rest a Y)) := by
        intro h
        obtain ⟨h1, h2⟩ := hash_more (X := Y) KA.out.ok (by rw [HY.out, ← HA.out]; exact h)
        rw [← HA.out] at h1
        refine ⟨?_, h1⟩
        rw [h2, List.length_append, HY.out]
        exact HB3.out
      have HFULL : Hid (a + n = 64 → HashOk (X ++ Y) (laidOver rest a Y) ∧ runB initS (X ++ Y) ((X ++ Y).length / 64) = blockS (runB initS X (X.length / 64)) (laidOver rest a Y) ∧ (X ++ Y).length = X.length + n) := by
        intro h
        obtain ⟨h1, h2⟩ := hash_full (X := Y) KA.out.ok (by rw [HY.out, ← HA.out]; exact h)
        rw [← HA.out] at h1 h2
        exact ⟨h1, h2, by rw [List.length_append, HY.out]⟩
      have HRL : Hid ((laidOver rest a Y).length = 64) := laidOver_length KA.out.ok.1 (by rw [HY.out]; omega)
      generalize laidOver rest a Y = R2 at *
      generalize runB initS X (X.length / 64) = ST at *
      generalize X.length = L at *
      clear KA KF HT hn ha HXL u1' u5
      by_cases hfull : a + n = 64
      · have tb : (((a : Int) + (n : Int)) == 64) = true := by rw [beq_iff_eq]; omega
        have HF := Lib.hid (HFULL.out hfull)
        have KT3 : Hid (ShaTab (w2.setCell ⟨g, 0, none⟩ (.int .i64 ((L + n : Nat) : Int)))) := KT.out.fr ((Fr.refl (fun k => k = g) w2).setCell (p := ⟨g, 0, none⟩) (fun _ => rfl) _) (fun e => HNE.out.1 e.symm) (fun e => HNE.out.2 e.symm)
        clear HMORE HFULL
        go_wp2
        rw [show (L : Int) + (n : Int) = ((L + n : Nat) : Int) by omega]
        generalize w2.setCell ⟨g, 0, none⟩ (.int .i64 ((L + n : Nat) : Int)) = w3 at *
        have CC := Lib.hid (compress_any g 1 g 9 131 [.int .i64 (L + n : Nat)] (R2.map bvI) ST KS.out R2 w3.drew HB3.out.drew rfl (fun j hj => hash_cell HB3.out.drew HRL.out j hj) KT3.out.kk)
        generalize blockS ST R2 = S2 at *
        clear c0 f0 d0 e0 hcp
        go_still_tail 6, (by kernel_rfl)
        change wpList _ _ _ _ _ w3.drew
        go_wp2_with fail
        refine CC.out.mono ?_
        rintro e w4 ⟨rfl, f4, b4⟩
        have HM : Hid (HashAt w4 g (X ++ Y) R2) := by
          obtain ⟨h1, h2, h3⟩ := HF.out
          refine ⟨?_, h1⟩
          rw [h2, h3]
          exact b4
        have HF4 : Hid (Fr (fun k => k = g) w w4) := HF3.out.drew.trans f4
        clear f4 b4 CC HB3 HF3
        go_wp2
        go_roundw
        case rel => exact ⟨t.extract n t.size, X ++ Y, R2, rfl, HT2.out, by have := HTS.out; omega, HM.out, HF4.out⟩
        case measure => have := HTS.out; simp only [strSize]; omega
      · have tb : (((a : Int) + (n : Int)) == 64) = false := by rw [beq_eq_false_iff_ne]; omega
        have HM := Lib.hid (HMORE.out (by omega))
        clear HMORE HFULL
        go_wp2
        go_roundw
        case rel => exact ⟨t.extract n t.size, X ++ Y, R2, rfl, HT2.out, by have := HTS.out; omega, HM.out, HF3.out⟩
        case measure => have := HTS.out; simp only [strSize]; omega
    · have h0 : t.size = 0 := by omega
      have hdt : decide ((0 : Int) < (t.size : Int)) = false := decide_eq_false (by omega)
      have hdn : decide (0 < t.size) = false := decide_eq_false (by omega)
      have hX : TX = X := by
        rw [HTXX.out]
        have : txL t = [] := List.eq_nil_of_length_eq_zero (by rw [txL_length]; exact h0)
        rw [this, List.append_nil]
      have HX := Lib.hid hX
      clear hX h0
      go_wp2
      go_ret
      refine ⟨rfl, KF.out, rest, ?_⟩
      rw [HX.out]
      exact KA.out
end Go.Proofs.YtkaghbpdnmigmaaDoor
