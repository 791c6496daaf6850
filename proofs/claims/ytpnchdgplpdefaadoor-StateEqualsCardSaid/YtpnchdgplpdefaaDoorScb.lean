/- State: object.Name.Encode (written by genScb.py). -/
import Derived.Test.YtpnchdgplpdefaaDoorScc
import Derived.Deep.DeepCutAuto
namespace Go.Proofs.YtpnchdgplpdefaaDoor
open Go.RowKit Go.Shelf

theorem wp_allocBlk {P : Program} {op : Oper} {a : Act} {w : World} {K : Act → World → Prop} {Q : Exit → Act → World → Prop} (t : TypeId) (ho : op.op = .alloc t) (z : Value) (hz : ∀ w, (zeroValue t).run P w = .ok z w) (cells : Array Value) (hc : z.cells = cells)
    (h : ∀ w', NewBlk w w' t cells → K (a.put op.dst (.pointer (some ⟨w.heap.size, 0, none⟩))) w') : op.wp P a w K Q := by
  subst hc
  unfold Oper.wp execOp
  simp only [ho, Instr.alloc, Sem.run_bind, hz, newVar, newRow, run_newObj_alloc, Sem.run_pure, Result.andThen_ok]
  exact h _ (NewBlk.alloc w t z.cells)
theorem blk_apart {w : World} {g g' : Nat} {t t' : TypeId} {cs cs' : Array Value} (h : Blk w g t cs) (h' : Blk w g' t' cs') (hne : t ≠ t') : g ≠ g' := by
  rintro rfl
  have e := h.symm.trans h'
  simp only [Option.some.injEq, Obj.cells.injEq] at e
  exact hne e.2.1
theorem wrT_nil {gw k : Nat} (h : WrT gw (.slice none 0 0) k) : k = gw := by
  rcases h with h | h
  · exact h
  · simp [Value.ownBlock] at h
def nmC (k : Nat) (ow : ByteArray) (nu ix : Int) (tx : ByteArray) : Array Value := #[.int .i64 (k : Int), .string ow, .int .i64 nu, .int .i64 ix, .string tx]
def usC (wd : ByteArray) (bo bn bi bt : Bool) (mo : Int) : Array Value := #[.string wd, .bool bo, .bool bn, .bool bi, .bool bt, .int .i64 mo]
/-- What is written so far. -/
structure WN (w2 w : World) (gw : Nat) (v : Value) (l : List UInt8) : Prop where
  step : ∃ w0, WrStep w0 gw (.slice none 0 0) w v (l, 0) ∧ Fr Nothing w2 w0
  new : w2.heap.size ≤ gw
theorem WN.next {w2 w w' : World} {gw : Nat} {v : Value} {l l' : List UInt8} (h : WN w2 w gw v l) (k : ∃ v', WrStep w gw v w' v' (l', 0)) : ∃ v', WN w2 w' gw v' l' := by
  obtain ⟨v', hk⟩ := k
  obtain ⟨w0, h0, hf⟩ := h.step
  exact ⟨v', ⟨w0, h0.trans hk, hf⟩, h.new⟩
theorem WN.fr {w2 w : World} {gw : Nat} {v : Value} {l : List UInt8} (h : WN w2 w gw v l) : Fr Nothing w2 w := by
  obtain ⟨w0, h0, hf⟩ := h.step
  exact hf.then_ h0.fr (fun i hi e => by have := wrT_nil e; have := h.new; omega)
theorem WN.keep {w2 w w' : World} {gw g : Nat} {v v' : Value} {l l' : List UInt8} {t : TypeId} {cs : Array Value} (h : WN w2 w gw v l) (hk : WrStep w gw v w' v' (l', 0)) (hb : Blk w g t cs) (hn : t ≠ 140) (ht : t ≠ 5) : Blk w' g t cs := by
  obtain ⟨w0, h0, hf⟩ := h.step
  refine hb.fr hk.fr (fun e => ?_)
  rcases e with e | e
  · exact blk_apart hb h0.wr.blk hn e
  · exact own_blk_ne h0.wr.own hb (fun e' => ht e'.symm) e
/-- Between two writes. -/
def NS (w2 W : World) (gw gu gb : Nat) (us nm : Array Value) (l : List UInt8) : Prop := ∃ v, WN w2 W gw v l ∧ Blk W gu 110 us ∧ Blk W gb 36 nm
theorem WN.wr {w2 w : World} {gw : Nat} {v : Value} {l : List UInt8} (h : WN w2 w gw v l) : Wr w gw v l 0 := by
  obtain ⟨w0, h0, _⟩ := h.step
  exact h0.wr
theorem WN.ns {w2 w w' : World} {gw gu gb : Nat} {us nm : Array Value} {v v' : Value} {l l' : List UInt8} (h : WN w2 w gw v l) (hu : Blk w gu 110 us) (hn : Blk w gb 36 nm) (k : WrStep w gw v w' v' (l', 0)) : NS w2 w' gw gu gb us nm l' := by
  obtain ⟨v2, h2⟩ := h.next ⟨v', k⟩
  exact ⟨v2, h2, h.keep k hu (by decide) (by decide), h.keep k hn (by decide) (by decide)⟩

set_option maxRecDepth 100000 in
set_option maxHeartbeats 4000000 in
theorem NEnc_all (k : Nat) (ow : ByteArray) (nu ix : Int) (tx wd : ByteArray) (bo bn bi bt : Bool) (mo : Int) (w : World) (hU : UsaT w) (hk : 1 ≤ k ∧ k ≤ 20) (hu : usaL[k]? = some ⟨wd, bo, bn, bi, bt, mo⟩) (ho : ow.size ≤ 16777216) (ht : tx.size ≤ 16777216) (hok : okNm ⟨(k : Int), ow, nu, ix, tx⟩ = true) :
    Calls Tryd.prog 51 #[.agg #[.int .i64 (k : Int), .string ow, .int .i64 nu, .int .i64 ix, .string tx]] w (Same' w (.tuple #[.string ⟨(nameU ⟨wd, bo, bn, bi, bt, mo⟩ ⟨(k : Int), ow, nu, ix, tx⟩).toArray⟩, .int .i64 0])) := by
  have hp : UsParts ⟨wd, bo, bn, bi, bt, mo⟩ ⟨(k : Int), ow, nu, ix, tx⟩ := by
    obtain ⟨_, u, h1, h2⟩ := okNm_us hok
    simp only [Int.toNat_natCast] at h1
    rw [hu] at h1
    cases h1
    exact okUs_parts h2
  have hmo := most_le hu
  simp only at hmo
  have HNU : Hid (bn = true → nu = (nu.toNat : Int) ∧ nu.toNat ≤ 1073741824) := fun h => by
    have := hp.n1 h
    simp only at this
    omega
  have HIX : Hid (bi = true → ix = (ix.toNat : Int) ∧ ix.toNat ≤ 1073741824) := fun h => by
    have := hp.i1 h
    simp only at this
    omega
  have HLL : Hid (enc k ++ (if bo then textB (strL ow) else []) ++ (if bn then enc nu.toNat else []) ++ (if bi then enc ix.toNat else []) ++ (if bt then textB (strL tx) else []) = nameU ⟨wd, bo, bn, bi, bt, mo⟩ ⟨(k : Int), ow, nu, ix, tx⟩) := by
    simp [Hid, nameU]
  have CH : Hid (∀ w', Fr Nothing w w' → Calls Tryd.prog 30 #[.agg #[.int .i64 (k : Int), .string ow, .int .i64 nu, .int .i64 ix, .string tx]] w' (Checked w' ⟨(k : Int), ow, nu, ix, tx⟩)) := fun w' f => Check_any ⟨(k : Int), ow, nu, ix, tx⟩ w' (hU.fr0 f) (by simp only; omega) (by simp only; omega)
  have HLN : Hid ((nameU ⟨wd, bo, bn, bi, bt, mo⟩ ⟨(k : Int), ow, nu, ix, tx⟩).length ≤ 50 + ow.size + tx.size) := nameU_length _ _
  have HOK := Lib.hid hok
  have HSZ : Hid (ow.size ≤ 16777216 ∧ tx.size ≤ 16777216) := ⟨ho, ht⟩
  have UR : Hid (∀ j v, (usC wd bo bn bi bt mo).toList[j]? = some v → w.cell? ⟨0, k * 6 + j, none⟩ = some v) := hU.row k _ hu
  have k1 : (k : Int) < 21 := by omega
  have k2 : k < 21 := by omega
  have k3 : (0 : Int) ≤ (k : Int) := by omega
  clear hU hu hok hp hmo ho ht
  obtain ⟨L1, hL1⟩ : ∃ L, enc k ++ (if bo then textB (strL ow) else []) = L := ⟨_, rfl⟩
  obtain ⟨L2, hL2⟩ : ∃ L, L1 ++ (if bn then enc nu.toNat else []) = L := ⟨_, rfl⟩
  obtain ⟨L3, hL3⟩ : ∃ L, L2 ++ (if bi then enc ix.toNat else []) = L := ⟨_, rfl⟩
  obtain ⟨L4, hL4⟩ : ∃ L, L3 ++ (if bt then textB (strL tx) else []) = L := ⟨_, rfl⟩
  rw [hL1, hL2, hL3, hL4] at HLL
  rw [← HLL.out] at HLN
  rw [← HLL.out]
  have HL1 := Lib.hid hL1
  have HL2 := Lib.hid hL2
  have HL3 := Lib.hid hL3
  have HL4 := Lib.hid hL4
  have HLS : Hid (L1.length ≤ 100000000 ∧ L2.length ≤ 100000000 ∧ L3.length ≤ 100000000 ∧ L4.length ≤ 100000000) := by
    have h1 := HLN.out
    have h2 := HSZ.out
    rw [← hL4, ← hL3, ← hL2] at h1
    simp only [List.length_append] at h1
    simp only [Hid]
    rw [← hL4, ← hL3, ← hL2]
    simp only [List.length_append]
    omega
  clear hL1 hL2 hL3 hL4 HLL HLN
  go_enter Tryd.func51, Tryd.ntmps51
  go_wp2_with (refine wpList_boxBlk rfl 36 (.tmp 0) rfl (nmC k ow nu ix tx) rfl ?_)
  intro w1 n1
  have F1 := Lib.hid n1.fr
  have NB0 := Lib.hid n1.blk
  clear n1
  generalize w.heap.size = gb at *
  have NB1 : Hid (Blk w1 gb 36 (nmC k ow nu ix tx)) := NB0.out
  clear NB0
  go_wp2_with (refine wpList_load_add rfl 36 (.tmp 1) rfl ⟨gb, 0, none⟩ rfl (NameV.cells ⟨(k : Int), ow, nu, ix, tx⟩) _ ?hcc1 Tryd.underlying36 rfl infoName (Held.go ?hold1))
  case hcc1 => exact fun j x hx => by rw [Addr.add_mid, Nat.zero_add]; exact NB1.out.cell j |>.trans (by rw [← List.getElem?_toArray] at hx; exact hx)
  unfold Held
  go_wp2_with fail
  refine (CH.out _ F1.out).mono ?_
  rintro e w2 ⟨q, rfl, hq, f2⟩
  obtain rfl : q = 0 := by
    rw [HOK.out] at hq
    exact beq_iff_eq.1 hq
  have F2 := Lib.hid (F1.out.trans f2)
  have NB2 := Lib.hid (NB1.out.fr f2 (fun x => x))
  clear hq f2 CH HOK NB1 F1
  go_upto_region 4 with fail
  refine wp_region_st 6 Nothing [Is (.pointer (some ⟨gb, 0, none⟩)), Is (.int .i64 (k : Int)), Is (.pointer (some ⟨0, k * 6, none⟩)), Is (.agg (usC wd bo bn bi bt mo)), (fun zv zW => ∃ g, zv = .pointer (some ⟨g, 0, none⟩) ∧ w2.heap.size ≤ g ∧ Wr zW g (.slice none 0 0) [] 0), (fun zv zW => ∃ g, zv = .pointer (some ⟨g, 0, none⟩) ∧ w2.heap.size ≤ g ∧ Blk zW g 110 #[.string ByteArray.empty, .bool false, .bool false, .bool false, .bool false, .int .i64 0])] [] (fun _ => True) (fun _ _ => false) (by kernel_rfl) (by kernel_rfl) (by kernel_rfl) (by kernel_rfl) ⟨Is.stable _, Is.stable _, Is.stable _, Is.stable _, fun _ _ _ _ f h => by obtain ⟨g, e, l, b⟩ := h; exact ⟨g, e, l, b.far f (fun _ _ x => x)⟩, fun _ _ _ _ f h => by obtain ⟨g, e, l, b⟩ := h; exact ⟨g, e, l, b.fr f (fun x => x)⟩, trivial⟩ trivial (fun _ _ _ _ h => h) trivial ?_ ?_
  · refine ⟨?a11_0, ?a11_1, ?a11_2, ?a11_3, ?a11_4, ?a11_5, trivial⟩
    all_goals intro u w' d hf hR k1 k0 kM
    all_goals simp only [List.take_succ_cons, List.take_zero, List.map_cons, List.map_nil, puts, Act.put, List.setIfInBounds_toArray, List.set_cons_zero, List.set_cons_succ, Nat.reduceAdd, Nat.zero_add]
    case a11_1 =>
      simp only [show u 0 = _ from hR 0 (by kernel_rfl)]
      clear hR k1 k0 kM
      refine .inl ⟨by kernel_rfl, ?_⟩
      have q : _ = some (Value.int .i64 (k : Int)) := (NB2.out.fr hf (fun x => x)).cell 0
      go_simp
      exact ⟨_, rfl, Fr.refl _ _, rfl, trivial⟩
    case' a11_2 => simp only [show u 1 = _ from hR 1 (by kernel_rfl)]
    case a11_3 =>
      simp only [show u 2 = _ from hR 2 (by kernel_rfl)]
      clear hR k1 k0 kM
      refine .inl ⟨by kernel_rfl, ?_⟩
      exact wp_load_add _ _ rfl ⟨0, k * 6, none⟩ rfl (usC wd bo bn bi bt mo).toList _ (fun jj v hv => by rw [Addr.add_mid]; exact (F2.out.trans hf).cellSome (UR.out jj v hv) (fun x => x)) Tryd.underlying110 rfl infoUsage ⟨_, rfl, Fr.refl _ _, rfl, trivial⟩
    case a11_4 =>
      clear hR k1 k0 kM
      refine .inl ⟨by kernel_rfl, ?_⟩
      go_simp
      refine (NewWriter_any _).mono ?_
      rintro e w4 ⟨rfl, hw, f4⟩
      exact ⟨_, rfl, f4.weak, ⟨_, rfl, hf.size, hw⟩, trivial⟩
    case a11_5 =>
      clear hR k1 k0 kM
      refine .inl ⟨by kernel_rfl, ?_⟩
      refine wp_allocBlk 110 rfl usaZ zvUsage #[.string ByteArray.empty, .bool false, .bool false, .bool false, .bool false, .int .i64 0] rfl ?_
      intro w4 n4
      exact ⟨_, rfl, n4.fr, ⟨_, rfl, hf.size, n4.blk⟩, trivial⟩
    all_goals
      clear hR k1 k0 kM
      refine .inl ⟨by kernel_rfl, ?_⟩
      go_simp
      exact ⟨_, rfl, Fr.refl _ _, rfl, trivial⟩
  · intro u w' hf hR kM
    have k3' : u 3 = _ := hR 3 (by omega)
    obtain ⟨gw, k4, lw, HW0⟩ := hR 4 (by omega)
    obtain ⟨gu, k5, lu, HU0⟩ := hR 5 (by omega)
    clear hR kM
    simp only [List.take_succ_cons, List.take_zero, List.map_cons, List.map_nil, puts, Act.put, List.setIfInBounds_toArray, List.set_cons_zero, List.set_cons_succ, List.drop_succ_cons, List.drop_zero, Nat.reduceAdd, Nat.zero_add, k3', k4, k5]
    have HWW := Lib.hid HW0
    have HUU := Lib.hid HU0
    have LW : Hid (w2.heap.size ≤ gw ∧ w2.heap.size ≤ gu) := ⟨lw, lu⟩
    have HF := Lib.hid hf
    clear hf k3' k4 k5 lw lu HW0 HU0
    refine wpList_storeBlk rfl 110 (.tmp 5) _ rfl gu (usC wd bo bn bi bt mo) rfl rfl _ _ HUU.out infoUsage rfl (Usa.one ⟨wd, bo, bn, bi, bt, mo⟩) ?_
    intro wi bu fu
    have NE : Hid (gw ≠ gu) := blk_apart HWW.out.blk HUU.out (by decide)
    have HWI : Hid (Wr wi gw (.slice none 0 0) [] 0) := HWW.out.far fu (fun x hx e => by have e' : x = gu := e; have := wrT_nil hx; have := NE.out; omega)
    have FWI : Hid (Fr Nothing w2 wi) := HF.out.then_ fu (fun i hi e => by have e' : i = gu := e; have := LW.out; omega)
    have WNI : Hid (WN w2 wi gw (.slice none 0 0) []) := ⟨⟨wi, WrStep.start HWI.out, FWI.out⟩, LW.out.1⟩
    have UB : Hid (Blk wi gu 110 (usC wd bo bn bi bt mo)) := bu
    have NB : Hid (Blk wi gb 36 (nmC k ow nu ix tx)) := NB2.out.fr FWI.out (fun x => x)
    clear fu bu HWW HUU HF NB2 HWI NE FWI
    have c0 : wi.cell? ⟨gb, 0, none⟩ = some (.int .i64 (k : Int)) := NB.out.cell 0
    go_wp2_with fail
    refine (wNumber_any gw _ _ 0 (k : Int) _ WNI.out.wr (by simp) (by omega)).mono ?_
    rintro e wj ⟨rfl, vj, hs⟩
    rw [wNumber_pos, List.nil_append] at hs
    have ST : Hid (NS w2 wj gw gu gb (usC wd bo bn bi bt mo) (nmC k ow nu ix tx) (enc k)) := WNI.out.ns UB.out NB.out hs
    clear hs c0 WNI UB NB
    generalize wj = wi at *
    have ub : wi.cell? ⟨gu, 1, none⟩ = some (.bool bo) := by obtain ⟨_, _, h, _⟩ := ST.out; exact h.cell 1
    go_upto_if 24 with fail
    clear ub
    go_cut [1] (fun p1 wx => p1 = .pointer (some ⟨gb, 0, none⟩) ∧ NS w2 wx gw gu gb (usC wd bo bn bi bt mo) (nmC k ow nu ix tx) L1)
    case first =>
      cases bo
      · go_wp2
        go_meet
        refine ⟨rfl, ?_⟩
        have h := ST.out
        rw [← HL1.out]
        simpa using h
      · obtain ⟨v, wn, ub, nb⟩ := ST.out
        have WNI := Lib.hid wn
        have UB := Lib.hid ub
        have NB := Lib.hid nb
        clear wn ub nb
        have cf : wi.cell? ⟨gb, 1, none⟩ = some (.string ow) := NB.out.cell 1
        go_wp2_with fail
        refine (wText_any gw v _ 0 ow _ WNI.out.wr (by have := enc_length k; omega) (by have := HSZ.out; omega)).mono ?_
        rintro e wj ⟨rfl, vj, hs⟩
        rw [wText_small _ _ (by have := HSZ.out; omega)] at hs
        have h := WNI.out.ns UB.out NB.out hs
        have HN := Lib.hid h
        clear hs h cf
        go_wp2
        go_meet
        refine ⟨rfl, ?_⟩
        have h := HN.out
        rw [← HL1.out]
        simpa [textB, strL_length] using h
    case rest =>
      obtain ⟨rfl, hns⟩ := hcut
      clear ST
      have ST := Lib.hid hns
      clear hns
      generalize wc = wi at *
      have ub : wi.cell? ⟨gu, 2, none⟩ = some (.bool bn) := by obtain ⟨_, _, h, _⟩ := ST.out; exact h.cell 2
      go_upto_if 30 with fail
      clear ub
      go_cut [1] (fun p1 wx => p1 = .pointer (some ⟨gb, 0, none⟩) ∧ NS w2 wx gw gu gb (usC wd bo bn bi bt mo) (nmC k ow nu ix tx) L2)
      case first =>
        cases bn
        · go_wp2
          go_meet
          refine ⟨rfl, ?_⟩
          have h := ST.out
          rw [← HL2.out]
          simpa using h
        · obtain ⟨v, wn, ub, nb⟩ := ST.out
          have WNI := Lib.hid wn
          have UB := Lib.hid ub
          have NB := Lib.hid nb
          clear wn ub nb
          have cf : wi.cell? ⟨gb, 2, none⟩ = some (.int .i64 nu) := NB.out.cell 2
          go_wp2_with fail
          refine (wNumber_any gw v _ 0 nu _ WNI.out.wr (by have := HLS.out; omega) (by have := HNU.out (by first | rfl | trivial); omega)).mono ?_
          rintro e wj ⟨rfl, vj, hs⟩
          rw [(HNU.out (by first | rfl | trivial)).1, wNumber_pos] at hs
          have h := WNI.out.ns UB.out NB.out hs
          have HN := Lib.hid h
          clear hs h cf
          go_wp2
          go_meet
          refine ⟨rfl, ?_⟩
          have h := HN.out
          rw [← HL2.out]
          simpa [textB, strL_length] using h
      case rest =>
        obtain ⟨rfl, hns⟩ := hcut
        clear ST
        have ST := Lib.hid hns
        clear hns
        generalize wc = wi at *
        have ub : wi.cell? ⟨gu, 3, none⟩ = some (.bool bi) := by obtain ⟨_, _, h, _⟩ := ST.out; exact h.cell 3
        go_upto_if 36 with fail
        clear ub
        go_cut [1] (fun p1 wx => p1 = .pointer (some ⟨gb, 0, none⟩) ∧ NS w2 wx gw gu gb (usC wd bo bn bi bt mo) (nmC k ow nu ix tx) L3)
        case first =>
          cases bi
          · go_wp2
            go_meet
            refine ⟨rfl, ?_⟩
            have h := ST.out
            rw [← HL3.out]
            simpa using h
          · obtain ⟨v, wn, ub, nb⟩ := ST.out
            have WNI := Lib.hid wn
            have UB := Lib.hid ub
            have NB := Lib.hid nb
            clear wn ub nb
            have cf : wi.cell? ⟨gb, 3, none⟩ = some (.int .i64 ix) := NB.out.cell 3
            go_wp2_with fail
            refine (wNumber_any gw v _ 0 ix _ WNI.out.wr (by have := HLS.out; omega) (by have := HIX.out (by first | rfl | trivial); omega)).mono ?_
            rintro e wj ⟨rfl, vj, hs⟩
            rw [(HIX.out (by first | rfl | trivial)).1, wNumber_pos] at hs
            have h := WNI.out.ns UB.out NB.out hs
            have HN := Lib.hid h
            clear hs h cf
            go_wp2
            go_meet
            refine ⟨rfl, ?_⟩
            have h := HN.out
            rw [← HL3.out]
            simpa [textB, strL_length] using h
        case rest =>
          obtain ⟨rfl, hns⟩ := hcut
          clear ST
          have ST := Lib.hid hns
          clear hns
          generalize wc = wi at *
          have ub : wi.cell? ⟨gu, 4, none⟩ = some (.bool bt) := by obtain ⟨_, _, h, _⟩ := ST.out; exact h.cell 4
          go_upto_if 42 with fail
          clear ub
          go_cut [1] (fun p1 wx => p1 = .pointer (some ⟨gb, 0, none⟩) ∧ NS w2 wx gw gu gb (usC wd bo bn bi bt mo) (nmC k ow nu ix tx) L4)
          case first =>
            cases bt
            · go_wp2
              go_meet
              refine ⟨rfl, ?_⟩
              have h := ST.out
              rw [← HL4.out]
              simpa using h
            · obtain ⟨v, wn, ub, nb⟩ := ST.out
              have WNI := Lib.hid wn
              have UB := Lib.hid ub
              have NB := Lib.hid nb
              clear wn ub nb
              have cf : wi.cell? ⟨gb, 4, none⟩ = some (.string tx) := NB.out.cell 4
              go_wp2_with fail
              refine (wText_any gw v _ 0 tx _ WNI.out.wr (by have := HLS.out; omega) (by have := HSZ.out; omega)).mono ?_
              rintro e wj ⟨rfl, vj, hs⟩
              rw [wText_small _ _ (by have := HSZ.out; omega)] at hs
              have h := WNI.out.ns UB.out NB.out hs
              have HN := Lib.hid h
              clear hs h cf
              go_wp2
              go_meet
              refine ⟨rfl, ?_⟩
              have h := HN.out
              rw [← HL4.out]
              simpa [textB, strL_length] using h
          case rest =>
            obtain ⟨rfl, hns⟩ := hcut
            clear ST
            have ST := Lib.hid hns
            clear hns
            generalize wc = wi at *
            obtain ⟨v, wn, ub, nb⟩ := ST.out
            have WNI := Lib.hid wn
            clear wn ub nb ST
            go_wp2_with fail
            refine (wBytes_any gw _ _ _ _ WNI.out.wr (by have := HLS.out; omega)).mono ?_
            rintro e w8 ⟨_, hx⟩
            obtain ⟨v8, rfl, hg8⟩ := hx rfl
            obtain ⟨A8, n8, c8, rfl, H8, _⟩ := own_slice hg8.own
            have hcv := run_strT w8 _ _ _ c8 _ (OwnB.rd hg8.own H8.out)
            have F8 := Lib.hid ((F2.out.trans WNI.out.fr).trans hg8.fr0)
            clear hg8 hx
            go_wp2
            go_ret2
            exact ⟨rfl, F8.out⟩


theorem NEnc_any (n : NameV) (w : World) (hU : UsaT w) (ho : n.owner.size ≤ 16777216) (ht : n.text.size ≤ 16777216) (hok : okNm n = true) :
    Calls Tryd.prog 51 #[.agg n.cells.toArray] w (Same' w (.tuple #[.string ⟨(nameL n).toArray⟩, .int .i64 0])) := by
  obtain ⟨hk, u, hu, _⟩ := okNm_us hok
  rw [nameL_of hu]
  obtain ⟨kd, ow, nu, ix, tx⟩ := n
  obtain ⟨wd, bo, bn, bi, bt, mo⟩ := u
  simp only at ho ht hk hu
  obtain ⟨k, rfl⟩ : ∃ k : Nat, kd = (k : Int) := ⟨kd.toNat, by omega⟩
  rw [Int.toNat_natCast] at hu
  exact NEnc_all k ow nu ix tx wd bo bn bi bt mo w hU (by omega) hu ho ht hok
end Go.Proofs.YtpnchdgplpdefaaDoor
