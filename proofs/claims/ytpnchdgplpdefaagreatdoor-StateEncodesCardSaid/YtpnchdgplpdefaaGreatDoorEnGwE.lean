/- Several texts in one. -/
import Derived.Test.YtpnchdgplpdefaaGreatDoorEnGwX
import Derived.Test.YtpnchdgplpdefaaGreatDoorEnSbU
import Derived.Deep.DeepCutAuto
import Derived.Test.YtpnchdgplpdefaaGreatDoorEnSaM
import Derived.Test.YtpnchdgplpdefaaGreatDoorEnSbJ
namespace Go.Proofs.YtpnchdgplpdefaaGreatDoor
open Go.RowKit Go.Shelf
def textB (l : List UInt8) : List UInt8 := enc l.length ++ l
def nameU (u : Usa) (n : NameV) : List UInt8 := enc n.kind.toNat ++ ((if u.owner then textB (strL n.owner) else []) ++ ((if u.number then enc n.number.toNat else []) ++ ((if u.index then enc n.index.toNat else []) ++ (if u.text then textB (strL n.text) else []))))
def nameL (n : NameV) : List UInt8 := match usaL[n.kind.toNat]? with
 | some u => nameU u n
 | none => []
def entB (x : Ent) : List UInt8 := textB (nameL x.1) ++ textB (strL x.2)
def encS (L : List Ent) : List UInt8 := enc L.length ++ L.flatMap entB
theorem empty_of {s : ByteArray} (h : s.toList.isEmpty = true) : s = ByteArray.empty := by
 rw [ByteArray.toList_eq, List.isEmpty_iff] at h
 exact ByteArray.ext (Array.toList_inj.1 h)
structure UsParts (u : Usa) (n : NameV) : Prop where
 o0 : u.owner = false → n.owner = ByteArray.empty
 n0 : u.number = false → n.number = 0
 i0 : u.index = false → n.index = 0
 t0 : u.text = false → n.text = ByteArray.empty
 n1 : u.number = true → 0 ≤ n.number ∧ n.number ≤ 1073741824
 i1 : u.index = true → 0 ≤ n.index ∧ n.index ≤ u.most
theorem okUs_parts {u : Usa} {n : NameV} (h : okUs u n = true) : UsParts u n := by
 simp only [okUs, Bool.and_eq_true, Bool.or_eq_true, Bool.not_eq_true', decide_eq_true_eq] at h
 obtain ⟨⟨⟨⟨⟨⟨⟨h1, h2⟩, h3⟩, h4⟩, _⟩, h6⟩, h7⟩, _⟩ := h
 refine ⟨fun e => ?_, fun e => ?_, fun e => ?_, fun e => ?_, fun e => ?_, fun e => ?_⟩
 ·rcases h1 with h | h
  ·rw [e] at h; cases h
  ·exact empty_of h
 ·rcases h2 with h | h
  ·rw [e] at h; cases h
  ·exact beq_iff_eq.1 h
 ·rcases h3 with h | h
  ·rw [e] at h; cases h
  ·exact beq_iff_eq.1 h
 ·rcases h4 with h | h
  ·rw [e] at h; cases h
  ·exact empty_of h
 ·rcases h6 with h | h
  ·rw [e] at h; cases h
  ·exact h
 ·rcases h7 with h | h
  ·rw [e] at h; cases h
  ·exact h
theorem okNm_us {n : NameV} (h : okNm n = true) : (1 ≤ n.kind ∧ n.kind ≤ 20) ∧ ∃ u, usaL[n.kind.toNat]? = some u ∧ okUs u n = true := by
 simp only [okNm, Bool.and_eq_true, decide_eq_true_eq] at h
 obtain ⟨⟨h1, h2⟩, h3⟩ := h
 refine ⟨⟨h1, h2⟩, ?_⟩
 cases hu : usaL[n.kind.toNat]? with
 | none => rw [hu] at h3; cases h3
 | some u => rw [hu] at h3; exact ⟨u, rfl, h3⟩
theorem most_le {k : Nat} {u : Usa} (h : usaL[k]? = some u) : u.most ≤ 1073741824 := by
 have hm : ∀ x ∈ usaL, x.most ≤ 1073741824 := by decide
 exact hm u (List.mem_of_getElem? h)
theorem nameL_of {n : NameV} {u : Usa} (h : usaL[n.kind.toNat]? = some u) : nameL n = nameU u n := by
 unfold nameL
 rw [h]
theorem nameU_length (u : Usa) (n : NameV) : (nameU u n).length ≤ 50 + n.owner.size + n.text.size := by
 have h1 := enc_length n.kind.toNat
 have h2 := enc_length n.number.toNat
 have h3 := enc_length n.index.toNat
 have h4 := enc_length (strL n.owner).length
 have h5 := enc_length (strL n.text).length
 have h6 := strL_length n.owner
 have h7 := strL_length n.text
 simp only [nameU, List.length_append, textB]
 split <;> split <;> split <;> split <;> simp only [List.length_append, List.length_nil] <;> omega
theorem nameL_length (n : NameV) : (nameL n).length ≤ 50 + n.owner.size + n.text.size := by
 unfold nameL
 split
 ·exact nameU_length _ n
 ·simp
structure GoodE (L : List Ent) : Prop where
 ok : ∀ x ∈ L, okNm x.1 = true
 name : ∀ x ∈ L, GoodN x.1
 value : ∀ x ∈ L, x.2.size ≤ 1099511627776
end Go.Proofs.YtpnchdgplpdefaaGreatDoor
namespace Go.Proofs.YtpnchdgplpdefaaGreatDoor
open Go.RowKit Go.Shelf
theorem wp_allocBlk {P : Program} {op : Oper} {a : Act} {w : World} {K : Act → World → Prop} {Q : Exit → Act → World → Prop} (t : TypeId) (ho : op.op = .alloc t) (z : Value) (hz : ∀ w, (zeroValue t).run P w = .ok z w) (cells : Array Value) (hc : z.cells = cells)
  (h : ∀ w', NewBlk w w' t cells → K (a.put op.dst (.pointer (some ⟨w.heap.size, 0, none⟩))) w') : op.wp P a w K Q := by
 subst hc
 unfold Oper.wp execOp
 simp only [ho, Instr.alloc, Sem.run_bind, hz, newVar, newRow, run_newObj_alloc, Sem.run_pure, Result.andThen_ok]
 exact h _ (NewBlk.alloc w t z.cells)
theorem blk_apart {w : World} {g g' : Nat} {t t' : TypeId} {cs cs' : Array Value} (h : Blk w g t cs) (h' : Blk w g' t' cs') (hne : t ≠ t') : g ≠ g' := by
 rintro rfl
 have e := h.symm.trans h'
 simp only [Option.some.injEq, Obj.cells.injEq] at e
 exact hne e.2.1
theorem wrT_nil {gw k : Nat} (h : WrT gw (.slice none 0 0) k) : k = gw := by
 rcases h with h | h
 ·exact h
 ·simp [Value.ownBlock] at h
def nmC (k : Nat) (ow : ByteArray) (nu ix : Int) (tx : ByteArray) : Array Value := #[.int .i64 (k : Int), .string ow, .int .i64 nu, .int .i64 ix, .string tx]
def usC (wd : ByteArray) (bo bn bi bt : Bool) (mo : Int) : Array Value := #[.string wd, .bool bo, .bool bn, .bool bi, .bool bt, .int .i64 mo]
structure WN (w2 w : World) (gw : Nat) (v : Value) (l : List UInt8) : Prop where
 step : ∃ w0, WrStep w0 gw (.slice none 0 0) w v (l, 0) ∧ Fr Nothing w2 w0
 new : w2.heap.size ≤ gw
theorem WN.next {w2 w w' : World} {gw : Nat} {v : Value} {l l' : List UInt8} (h : WN w2 w gw v l) (k : ∃ v', WrStep w gw v w' v' (l', 0)) : ∃ v', WN w2 w' gw v' l' := by
 obtain ⟨v', hk⟩ := k
 obtain ⟨w0, h0, hf⟩ := h.step
 exact ⟨v', ⟨w0, h0.trans hk, hf⟩, h.new⟩
theorem WN.fr {w2 w : World} {gw : Nat} {v : Value} {l : List UInt8} (h : WN w2 w gw v l) : Fr Nothing w2 w := by
 obtain ⟨w0, h0, hf⟩ := h.step
 exact hf.then_ h0.fr (fun i hi e => by have := wrT_nil e; have := h.new; omega)
theorem WN.keep {w2 w w' : World} {gw g : Nat} {v v' : Value} {l l' : List UInt8} {t : TypeId} {cs : Array Value} (h : WN w2 w gw v l) (hk : WrStep w gw v w' v' (l', 0)) (hb : Blk w g t cs) (hn : t ≠ 107) (ht : t ≠ 5) : Blk w' g t cs := by
 obtain ⟨w0, h0, hf⟩ := h.step
 refine hb.fr hk.fr (fun e => ?_)
 rcases e with e | e
 ·exact blk_apart hb h0.wr.blk hn e
 ·exact own_blk_ne h0.wr.own hb (fun e' => ht e'.symm) e
def NS (w2 W : World) (gw gu gb : Nat) (us nm : Array Value) (l : List UInt8) : Prop := ∃ v, WN w2 W gw v l ∧ Blk W gu 112 us ∧ Blk W gb 44 nm
theorem WN.wr {w2 w : World} {gw : Nat} {v : Value} {l : List UInt8} (h : WN w2 w gw v l) : Wr w gw v l 0 := by
 obtain ⟨w0, h0, _⟩ := h.step
 exact h0.wr
theorem WN.ns {w2 w w' : World} {gw gu gb : Nat} {us nm : Array Value} {v v' : Value} {l l' : List UInt8} (h : WN w2 w gw v l) (hu : Blk w gu 112 us) (hn : Blk w gb 44 nm) (k : WrStep w gw v w' v' (l', 0)) : NS w2 w' gw gu gb us nm l' := by
 obtain ⟨v2, h2⟩ := h.next ⟨v', k⟩
 exact ⟨v2, h2, h.keep k hu (by decide) (by decide), h.keep k hn (by decide) (by decide)⟩
set_option maxRecDepth 100000 in
set_option maxHeartbeats 4000000 in
theorem NEnc_all (k : Nat) (ow : ByteArray) (nu ix : Int) (tx wd : ByteArray) (bo bn bi bt : Bool) (mo : Int) (w : World) (hU : UsaT w) (hk : 1 ≤ k ∧ k ≤ 20) (hu : usaL[k]? = some ⟨wd, bo, bn, bi, bt, mo⟩) (ho : ow.size ≤ 16777216) (ht : tx.size ≤ 16777216) (hok : okNm ⟨(k : Int), ow, nu, ix, tx⟩ = true) :
  Calls Tryz.prog 24 #[.agg #[.int .i64 (k : Int), .string ow, .int .i64 nu, .int .i64 ix, .string tx]] w (Same' w (.tuple #[.string ⟨(nameU ⟨wd, bo, bn, bi, bt, mo⟩ ⟨(k : Int), ow, nu, ix, tx⟩).toArray⟩, .int .i64 0])) := by
 have hp : UsParts ⟨wd, bo, bn, bi, bt, mo⟩ ⟨(k : Int), ow, nu, ix, tx⟩ := by
  obtain ⟨_, u, h1, h2⟩ := okNm_us hok
  simp only [Int.toNat_natCast] at h1
  rw [hu] at h1
  cases h1
  exact okUs_parts h2
 have hmo := most_le hu
 simp only at hmo
 have HNU : Hid (bn = true → nu = (nu.toNat : Int) ∧ nu.toNat ≤ 1073741824) := fun h => by
  have := hp.n1 h
  simp only at this
  omega
 have HIX : Hid (bi = true → ix = (ix.toNat : Int) ∧ ix.toNat ≤ 1073741824) := fun h => by
  have := hp.i1 h
  simp only at this
  omega
 have HLL : Hid (enc k ++ (if bo then textB (strL ow) else []) ++ (if bn then enc nu.toNat else []) ++ (if bi then enc ix.toNat else []) ++ (if bt then textB (strL tx) else []) = nameU ⟨wd, bo, bn, bi, bt, mo⟩ ⟨(k : Int), ow, nu, ix, tx⟩) := by
  simp [Hid, nameU]
 have CH : Hid (∀ w', Fr Nothing w w' → Calls Tryz.prog 44 #[.agg #[.int .i64 (k : Int), .string ow, .int .i64 nu, .int .i64 ix, .string tx]] w' (Checked w' ⟨(k : Int), ow, nu, ix, tx⟩)) := fun w' f => Check_any ⟨(k : Int), ow, nu, ix, tx⟩ w' (hU.fr0 f) (by simp only; omega) (by simp only; omega)
 have HLN : Hid ((nameU ⟨wd, bo, bn, bi, bt, mo⟩ ⟨(k : Int), ow, nu, ix, tx⟩).length ≤ 50 + ow.size + tx.size) := nameU_length _ _
 have HOK := Lib.hid hok
 have HSZ : Hid (ow.size ≤ 16777216 ∧ tx.size ≤ 16777216) := ⟨ho, ht⟩
 have UR : Hid (∀ j v, (usC wd bo bn bi bt mo).toList[j]? = some v → w.cell? ⟨0, k * 6 + j, none⟩ = some v) := hU.row k _ hu
 have k1 : (k : Int) < 21 := by omega
 have k2 : k < 21 := by omega
 have k3 : (0 : Int) ≤ (k : Int) := by omega
 clear hU hu hok hp hmo ho ht
 obtain ⟨L1, hL1⟩ : ∃ L, enc k ++ (if bo then textB (strL ow) else []) = L := ⟨_, rfl⟩
 obtain ⟨L2, hL2⟩ : ∃ L, L1 ++ (if bn then enc nu.toNat else []) = L := ⟨_, rfl⟩
 obtain ⟨L3, hL3⟩ : ∃ L, L2 ++ (if bi then enc ix.toNat else []) = L := ⟨_, rfl⟩
 obtain ⟨L4, hL4⟩ : ∃ L, L3 ++ (if bt then textB (strL tx) else []) = L := ⟨_, rfl⟩
 rw [hL1, hL2, hL3, hL4] at HLL
 rw [← HLL.out] at HLN
 rw [← HLL.out]
 have HL1 := Lib.hid hL1
 have HL2 := Lib.hid hL2
 have HL3 := Lib.hid hL3
 have HL4 := Lib.hid hL4
 have HLS : Hid (L1.length ≤ 100000000 ∧ L2.length ≤ 100000000 ∧ L3.length ≤ 100000000 ∧ L4.length ≤ 100000000) := by
  have h1 := HLN.out
  have h2 := HSZ.out
  rw [← hL4, ← hL3, ← hL2] at h1
  simp only [List.length_append] at h1
  simp only [Hid]
  rw [← hL4, ← hL3, ← hL2]
  simp only [List.length_append]
  omega
 clear hL1 hL2 hL3 hL4 HLL HLN
 go_enter Tryz.func24, Tryz.ntmps24
 go_wp2_with (refine wpList_boxBlk rfl 44 (.tmp 0) rfl (nmC k ow nu ix tx) rfl ?_)
 intro w1 n1
 have F1 := Lib.hid n1.fr
 have NB0 := Lib.hid n1.blk
 clear n1
 generalize w.heap.size = gb at *
 have NB1 : Hid (Blk w1 gb 44 (nmC k ow nu ix tx)) := NB0.out
 clear NB0
 go_wp2_with (refine wpList_load_add rfl 44 (.tmp 1) rfl ⟨gb, 0, none⟩ rfl (NameV.cells ⟨(k : Int), ow, nu, ix, tx⟩) _ ?hcc1 Tryz.underlying44 rfl infoName (Held.go ?hold1))
 case hcc1 => exact fun j x hx => by rw [Addr.add_mid, Nat.zero_add]; exact NB1.out.cell j |>.trans (by rw [← List.getElem?_toArray] at hx; exact hx)
 unfold Held
 go_wp2_with fail
 refine (CH.out _ F1.out).mono ?_
 rintro e w2 ⟨q, rfl, hq, f2⟩
 obtain rfl : q = 0 := by
  rw [HOK.out] at hq
  exact beq_iff_eq.1 hq
 have F2 := Lib.hid (F1.out.trans f2)
 have NB2 := Lib.hid (NB1.out.fr f2 (fun x => x))
 clear hq f2 CH HOK NB1 F1
 go_upto_region 4 with fail
 refine wp_region_st 6 Nothing [Is (.pointer (some ⟨gb, 0, none⟩)), Is (.int .i64 (k : Int)), Is (.pointer (some ⟨0, k * 6, none⟩)), Is (.agg (usC wd bo bn bi bt mo)), (fun zv zW => ∃ g, zv = .pointer (some ⟨g, 0, none⟩) ∧ w2.heap.size ≤ g ∧ Wr zW g (.slice none 0 0) [] 0), (fun zv zW => ∃ g, zv = .pointer (some ⟨g, 0, none⟩) ∧ w2.heap.size ≤ g ∧ Blk zW g 112 #[.string ByteArray.empty, .bool false, .bool false, .bool false, .bool false, .int .i64 0])] [] (fun _ => True) (fun _ _ => false) (by kernel_rfl) (by kernel_rfl) (by kernel_rfl) (by kernel_rfl) ⟨Is.stable _, Is.stable _, Is.stable _, Is.stable _, fun _ _ _ _ f h => by obtain ⟨g, e, l, b⟩ := h; exact ⟨g, e, l, b.far f (fun _ _ x => x)⟩, fun _ _ _ _ f h => by obtain ⟨g, e, l, b⟩ := h; exact ⟨g, e, l, b.fr f (fun x => x)⟩, trivial⟩ trivial (fun _ _ _ _ h => h) trivial ?_ ?_
 ·refine ⟨?a11_0, ?a11_1, ?a11_2, ?a11_3, ?a11_4, ?a11_5, trivial⟩
  all_goals intro u w' d hf hR k1 k0 kM
  all_goals simp only [List.take_succ_cons, List.take_zero, List.map_cons, List.map_nil, puts, Act.put, List.setIfInBounds_toArray, List.set_cons_zero, List.set_cons_succ, Nat.reduceAdd, Nat.zero_add]
  case a11_1 =>
   simp only [show u 0 = _ from hR 0 (by kernel_rfl)]
   clear hR k1 k0 kM
   refine .inl ⟨by kernel_rfl, ?_⟩
   have q : _ = some (Value.int .i64 (k : Int)) := (NB2.out.fr hf (fun x => x)).cell 0
   go_simp
   exact ⟨_, rfl, Fr.refl _ _, rfl, trivial⟩
  case' a11_2 => simp only [show u 1 = _ from hR 1 (by kernel_rfl)]
  case a11_3 =>
   simp only [show u 2 = _ from hR 2 (by kernel_rfl)]
   clear hR k1 k0 kM
   refine .inl ⟨by kernel_rfl, ?_⟩
   exact wp_load_add _ _ rfl ⟨0, k * 6, none⟩ rfl (usC wd bo bn bi bt mo).toList _ (fun jj v hv => by rw [Addr.add_mid]; exact (F2.out.trans hf).cellSome (UR.out jj v hv) (fun x => x)) Tryz.underlying112 rfl infoUsage ⟨_, rfl, Fr.refl _ _, rfl, trivial⟩
  case a11_4 =>
   clear hR k1 k0 kM
   refine .inl ⟨by kernel_rfl, ?_⟩
   go_simp
   refine (NewWriter_any _).mono ?_
   rintro e w4 ⟨rfl, hw, f4⟩
   exact ⟨_, rfl, f4.weak, ⟨_, rfl, hf.size, hw⟩, trivial⟩
  case a11_5 =>
   clear hR k1 k0 kM
   refine .inl ⟨by kernel_rfl, ?_⟩
   refine wp_allocBlk 112 rfl usaZ zvUsage #[.string ByteArray.empty, .bool false, .bool false, .bool false, .bool false, .int .i64 0] rfl ?_
   intro w4 n4
   exact ⟨_, rfl, n4.fr, ⟨_, rfl, hf.size, n4.blk⟩, trivial⟩
  all_goals
   clear hR k1 k0 kM
   refine .inl ⟨by kernel_rfl, ?_⟩
   go_simp
   exact ⟨_, rfl, Fr.refl _ _, rfl, trivial⟩
 ·intro u w' hf hR kM
  have k3' : u 3 = _ := hR 3 (by omega)
  obtain ⟨gw, k4, lw, HW0⟩ := hR 4 (by omega)
  obtain ⟨gu, k5, lu, HU0⟩ := hR 5 (by omega)
  clear hR kM
  simp only [List.take_succ_cons, List.take_zero, List.map_cons, List.map_nil, puts, Act.put, List.setIfInBounds_toArray, List.set_cons_zero, List.set_cons_succ, List.drop_succ_cons, List.drop_zero, Nat.reduceAdd, Nat.zero_add, k3', k4, k5]
  have HWW := Lib.hid HW0
  have HUU := Lib.hid HU0
  have LW : Hid (w2.heap.size ≤ gw ∧ w2.heap.size ≤ gu) := ⟨lw, lu⟩
  have HF := Lib.hid hf
  clear hf k3' k4 k5 lw lu HW0 HU0
  refine wpList_storeBlk rfl 112 (.tmp 5) _ rfl gu (usC wd bo bn bi bt mo) rfl rfl _ _ HUU.out infoUsage rfl (Usa.one ⟨wd, bo, bn, bi, bt, mo⟩) ?_
  intro wi bu fu
  have NE : Hid (gw ≠ gu) := blk_apart HWW.out.blk HUU.out (by decide)
  have HWI : Hid (Wr wi gw (.slice none 0 0) [] 0) := HWW.out.far fu (fun x hx e => by have e' : x = gu := e; have := wrT_nil hx; have := NE.out; omega)
  have FWI : Hid (Fr Nothing w2 wi) := HF.out.then_ fu (fun i hi e => by have e' : i = gu := e; have := LW.out; omega)
  have WNI : Hid (WN w2 wi gw (.slice none 0 0) []) := ⟨⟨wi, WrStep.start HWI.out, FWI.out⟩, LW.out.1⟩
  have UB : Hid (Blk wi gu 112 (usC wd bo bn bi bt mo)) := bu
  have NB : Hid (Blk wi gb 44 (nmC k ow nu ix tx)) := NB2.out.fr FWI.out (fun x => x)
  clear fu bu HWW HUU HF NB2 HWI NE FWI
  have c0 : wi.cell? ⟨gb, 0, none⟩ = some (.int .i64 (k : Int)) := NB.out.cell 0
  go_wp2_with fail
  refine (wNumber_any gw _ _ 0 (k : Int) _ WNI.out.wr (by simp) (by omega)).mono ?_
  rintro e wj ⟨rfl, vj, hs⟩
  rw [wNumber_pos, List.nil_append] at hs
  have ST : Hid (NS w2 wj gw gu gb (usC wd bo bn bi bt mo) (nmC k ow nu ix tx) (enc k)) := WNI.out.ns UB.out NB.out hs
  clear hs c0 WNI UB NB
  generalize wj = wi at *
  have ub : wi.cell? ⟨gu, 1, none⟩ = some (.bool bo) := by obtain ⟨_, _, h, _⟩ := ST.out; exact h.cell 1
  go_upto_if 24 with fail
  clear ub
  go_cut [1] (fun p1 wx => p1 = .pointer (some ⟨gb, 0, none⟩) ∧ NS w2 wx gw gu gb (usC wd bo bn bi bt mo) (nmC k ow nu ix tx) L1)
  case first =>
   cases bo
   ·go_wp2
    go_meet
    refine ⟨rfl, ?_⟩
    have h := ST.out
    rw [← HL1.out]
    simpa using h
   ·obtain ⟨v, wn, ub, nb⟩ := ST.out
    have WNI := Lib.hid wn
    have UB := Lib.hid ub
    have NB := Lib.hid nb
    clear wn ub nb
    have cf : wi.cell? ⟨gb, 1, none⟩ = some (.string ow) := NB.out.cell 1
    go_wp2_with fail
    refine (wText_any gw v _ 0 ow _ WNI.out.wr (by have := enc_length k; omega) (by have := HSZ.out; omega)).mono ?_
    rintro e wj ⟨rfl, vj, hs⟩
    rw [wText_small _ _ (by have := HSZ.out; omega)] at hs
    have h := WNI.out.ns UB.out NB.out hs
    have HN := Lib.hid h
    clear hs h cf
    go_wp2
    go_meet
    refine ⟨rfl, ?_⟩
    have h := HN.out
    rw [← HL1.out]
    simpa [textB, strL_length] using h
  case rest =>
   obtain ⟨rfl, hns⟩ := hcut
   clear ST
   have ST := Lib.hid hns
   clear hns
   generalize wc = wi at *
   have ub : wi.cell? ⟨gu, 2, none⟩ = some (.bool bn) := by obtain ⟨_, _, h, _⟩ := ST.out; exact h.cell 2
   go_upto_if 30 with fail
   clear ub
   go_cut [1] (fun p1 wx => p1 = .pointer (some ⟨gb, 0, none⟩) ∧ NS w2 wx gw gu gb (usC wd bo bn bi bt mo) (nmC k ow nu ix tx) L2)
   case first =>
    cases bn
    ·go_wp2
     go_meet
     refine ⟨rfl, ?_⟩
     have h := ST.out
     rw [← HL2.out]
     simpa using h
    ·obtain ⟨v, wn, ub, nb⟩ := ST.out
     have WNI := Lib.hid wn
     have UB := Lib.hid ub
     have NB := Lib.hid nb
     clear wn ub nb
     have cf : wi.cell? ⟨gb, 2, none⟩ = some (.int .i64 nu) := NB.out.cell 2
     go_wp2_with fail
     refine (wNumber_any gw v _ 0 nu _ WNI.out.wr (by have := HLS.out; omega) (by have := HNU.out (by first | rfl | trivial); omega)).mono ?_
     rintro e wj ⟨rfl, vj, hs⟩
     rw [(HNU.out (by first | rfl | trivial)).1, wNumber_pos] at hs
     have h := WNI.out.ns UB.out NB.out hs
     have HN := Lib.hid h
     clear hs h cf
     go_wp2
     go_meet
     refine ⟨rfl, ?_⟩
     have h := HN.out
     rw [← HL2.out]
     simpa [textB, strL_length] using h
   case rest =>
    obtain ⟨rfl, hns⟩ := hcut
    clear ST
    have ST := Lib.hid hns
    clear hns
    generalize wc = wi at *
    have ub : wi.cell? ⟨gu, 3, none⟩ = some (.bool bi) := by obtain ⟨_, _, h, _⟩ := ST.out; exact h.cell 3
    go_upto_if 36 with fail
    clear ub
    go_cut [1] (fun p1 wx => p1 = .pointer (some ⟨gb, 0, none⟩) ∧ NS w2 wx gw gu gb (usC wd bo bn bi bt mo) (nmC k ow nu ix tx) L3)
    case first =>
     cases bi
     ·go_wp2
      go_meet
      refine ⟨rfl, ?_⟩
      have h := ST.out
      rw [← HL3.out]
      simpa using h
     ·obtain ⟨v, wn, ub, nb⟩ := ST.out
      have WNI := Lib.hid wn
      have UB := Lib.hid ub
      have NB := Lib.hid nb
      clear wn ub nb
      have cf : wi.cell? ⟨gb, 3, none⟩ = some (.int .i64 ix) := NB.out.cell 3
      go_wp2_with fail
      refine (wNumber_any gw v _ 0 ix _ WNI.out.wr (by have := HLS.out; omega) (by have := HIX.out (by first | rfl | trivial); omega)).mono ?_
      rintro e wj ⟨rfl, vj, hs⟩
      rw [(HIX.out (by first | rfl | trivial)).1, wNumber_pos] at hs
      have h := WNI.out.ns UB.out NB.out hs
      have HN := Lib.hid h
      clear hs h cf
      go_wp2
      go_meet
      refine ⟨rfl, ?_⟩
      have h := HN.out
      rw [← HL3.out]
      simpa [textB, strL_length] using h
    case rest =>
     obtain ⟨rfl, hns⟩ := hcut
     clear ST
     have ST := Lib.hid hns
     clear hns
     generalize wc = wi at *
     have ub : wi.cell? ⟨gu, 4, none⟩ = some (.bool bt) := by obtain ⟨_, _, h, _⟩ := ST.out; exact h.cell 4
     go_upto_if 42 with fail
     clear ub
     go_cut [1] (fun p1 wx => p1 = .pointer (some ⟨gb, 0, none⟩) ∧ NS w2 wx gw gu gb (usC wd bo bn bi bt mo) (nmC k ow nu ix tx) L4)
     case first =>
      cases bt
      ·go_wp2
       go_meet
       refine ⟨rfl, ?_⟩
       have h := ST.out
       rw [← HL4.out]
       simpa using h
      ·obtain ⟨v, wn, ub, nb⟩ := ST.out
       have WNI := Lib.hid wn
       have UB := Lib.hid ub
       have NB := Lib.hid nb
       clear wn ub nb
       have cf : wi.cell? ⟨gb, 4, none⟩ = some (.string tx) := NB.out.cell 4
       go_wp2_with fail
       refine (wText_any gw v _ 0 tx _ WNI.out.wr (by have := HLS.out; omega) (by have := HSZ.out; omega)).mono ?_
       rintro e wj ⟨rfl, vj, hs⟩
       rw [wText_small _ _ (by have := HSZ.out; omega)] at hs
       have h := WNI.out.ns UB.out NB.out hs
       have HN := Lib.hid h
       clear hs h cf
       go_wp2
       go_meet
       refine ⟨rfl, ?_⟩
       have h := HN.out
       rw [← HL4.out]
       simpa [textB, strL_length] using h
     case rest =>
      obtain ⟨rfl, hns⟩ := hcut
      clear ST
      have ST := Lib.hid hns
      clear hns
      generalize wc = wi at *
      obtain ⟨v, wn, ub, nb⟩ := ST.out
      have WNI := Lib.hid wn
      clear wn ub nb ST
      go_wp2_with fail
      refine (wBytes_any gw _ _ _ _ WNI.out.wr (by have := HLS.out; omega)).mono ?_
      rintro e w8 ⟨_, hx⟩
      obtain ⟨v8, rfl, hg8⟩ := hx rfl
      obtain ⟨A8, n8, c8, rfl, H8, _⟩ := own_slice hg8.own
      have hcv := run_strT w8 _ _ _ c8 _ (OwnB.rd hg8.own H8.out)
      have F8 := Lib.hid ((F2.out.trans WNI.out.fr).trans hg8.fr0)
      clear hg8 hx
      go_wp2
      go_ret2
      exact ⟨rfl, F8.out⟩
theorem NEnc_any (n : NameV) (w : World) (hU : UsaT w) (ho : n.owner.size ≤ 16777216) (ht : n.text.size ≤ 16777216) (hok : okNm n = true) :
  Calls Tryz.prog 24 #[.agg n.cells.toArray] w (Same' w (.tuple #[.string ⟨(nameL n).toArray⟩, .int .i64 0])) := by
 obtain ⟨hk, u, hu, _⟩ := okNm_us hok
 rw [nameL_of hu]
 obtain ⟨kd, ow, nu, ix, tx⟩ := n
 obtain ⟨wd, bo, bn, bi, bt, mo⟩ := u
 simp only at ho ht hk hu
 obtain ⟨k, rfl⟩ : ∃ k : Nat, kd = (k : Int) := ⟨kd.toNat, by omega⟩
 rw [Int.toNat_natCast] at hu
 exact NEnc_all k ow nu ix tx wd bo bn bi bt mo w hU (by omega) hu ho ht hok
end Go.Proofs.YtpnchdgplpdefaaGreatDoor
namespace Go.Proofs.YtpnchdgplpdefaaGreatDoor
open Go.RowKit Go.Shelf
attribute [local go_sem] Oper.semAt_some
abbrev NdQ (w : World) (P : Nd → Prop) := {x : Nd // NdAt w x ∧ P x}
def ndEncQ {w : World} {P : Nd → Prop} (x : NdQ w P) : Array Value := #[.pointer (some ⟨x.1.g, 0, none⟩)]
def ndVQ {w : World} {P : Nd → Prop} (x : NdQ w P) : NameV × ByteArray := (x.1.nm, x.1.v)
def EachedQ (w : World) (P : Nd → Prop) (J Jx : List (NdQ w P) → World → Prop) (pre xs : List (NdQ w P)) (e : Ending) (W' : World) : Prop :=
 (e = .returned (.bool true) ∧ J (pre ++ xs) W' ∧ KN w W') ∨ (e = .returned (.bool false) ∧ ∃ q, q <+: xs ∧ Jx (pre ++ q) W')
inductive OrdQ (w : World) (P : Nd → Prop) : Option Addr → Tr → List (NdQ w P) → Prop where
 | leaf : OrdQ w P none .leaf []
 | node {l r : Tr} {nm : NameV} {v : ByteArray} {g : Nat} {la ra : Option Addr} {L R : List (NdQ w P)} (hl : OrdQ w P la l L) (hr : OrdQ w P ra r R)
   (hb : Blk w g 69 (nodeC la ra (.node l nm v r)).toArray) (x : NdQ w P) (hx : x.1 = ⟨g, nm, v⟩) : OrdQ w P (some ⟨g, 0, none⟩) (.node l nm v r) (L ++ x :: R)
theorem OrdQ.of {w : World} {P : Nd → Prop} : ∀ {a : Option Addr} {t : Tr}, NodH w a t → (∀ g e, e ∈ t.toL → P ⟨g, e.1, e.2⟩) → ∃ L, OrdQ w P a t L
 | _, .leaf, h, _ => by
  obtain rfl : _ = none := h
  exact ⟨[], .leaf⟩
 | _, .node l nm v r, ⟨g, la, ra, e, h1, h2, hb⟩, hP => by
  subst e
  obtain ⟨L, hL⟩ := OrdQ.of h1 (fun g e he => hP g e (by rw [Tr.toL]; simp [he]))
  obtain ⟨R, hR⟩ := OrdQ.of h2 (fun g e he => hP g e (by rw [Tr.toL]; simp [he]))
  exact ⟨_, .node hL hR hb ⟨⟨g, nm, v⟩, ⟨_, _, _, _, _, hb⟩, hP g (nm, v) (by rw [Tr.toL]; simp)⟩ rfl⟩
theorem OrdQ.toL {w : World} {P : Nd → Prop} {a : Option Addr} {t : Tr} {L : List (NdQ w P)} (h : OrdQ w P a t L) : L.map ndVQ = t.toL := by
 induction h with
 | leaf => rfl
 | node _ _ _ x hx h1 h2 =>
  rw [List.map_append, List.map_cons, h1, h2, Tr.toL]
  simp only [ndVQ, hx]
set_option maxRecDepth 100000 in
set_option maxHeartbeats 2000000 in
theorem each_inQ (l N : Nat) (w : World) (P : Nd → Prop) (J Jx : List (NdQ w P) → World → Prop)
  (hY : ∀ m pre x W, J pre W → KN w W → pre.length < N → YieldAt Fence.wide m Tryz.prog l (ndEncQ x) W fun e W' => (e = .returned (.bool true) ∧ J (pre ++ [x]) W' ∧ KN W W') ∨ (e = .returned (.bool false) ∧ Jx (pre ++ [x]) W'))
  {a : Option Addr} {t : Tr} {L : List (NdQ w P)} (h : OrdQ w P a t L) :
  ∀ (m : Nat) (pre : List (NdQ w P)) (W : World), J pre W → KN w W → pre.length + L.length ≤ N →
   CallsIn Fence.wide m Tryz.prog 54 #[.pointer a, .func (.yield l) #[] #[]] W (EachedQ w P J Jx pre L) := by
 induction h with
 | leaf =>
  intro m pre W hJ hK _
  refine callsIn_of_wp Tryz.func54 rfl trivial ?_ rfl
  simp only [Tryz.ntmps54, List.size_toArray, List.length_cons, List.length_nil, Nat.reduceAdd, Nat.reduceSub, Array.replicate_succ, Array.replicate_zero, List.push_toArray, List.append_toArray, List.nil_append, List.cons_append]
  gi_wp2_with (refine wpListIn_skipW rfl ?_)
  go_ret
  exact .inl ⟨rfl, by simpa using hJ, hK⟩
 | @node tl tr nm v g la ra L R hl hr hb x hx ihl ihr =>
  intro m pre W hJ hK hN
  have hdd : ∀ k : Nat, (Fence.wide.depth.isSome = true → 1 ≤ k) := fun k h => by cases h
  rw [List.length_append, List.length_cons] at hN
  have hq : ndEncQ x = #[Value.pointer (some ⟨g, 0, none⟩)] := by rw [ndEncQ, hx]
  have hy2 : ∀ W1, J (pre ++ L) W1 → KN w W1 → YieldAt Fence.wide (m - 1) Tryz.prog l #[.pointer (some ⟨g, 0, none⟩)] W1 fun e W2 =>
    (e = .returned (.bool true) ∧ J (pre ++ L ++ [x]) W2 ∧ KN W1 W2) ∨ (e = .returned (.bool false) ∧ Jx (pre ++ L ++ [x]) W2) := fun W1 hJ1 hK1 => by
   have := hY (m - 1) (pre ++ L) x W1 hJ1 hK1 (by simp; omega)
   rw [hq] at this
   exact this
  have ih1 := Lib.hid ((ihl (m - 1) pre W hJ hK (by omega)).mono (R' := fun e W1 =>
    (e = .returned (.bool true) ∧ KN w W1 ∧ YieldAt Fence.wide (m - 1) Tryz.prog l #[.pointer (some ⟨g, 0, none⟩)] W1 fun e W2 =>
     (e = .returned (.bool true) ∧ J (pre ++ L ++ [x]) W2 ∧ KN W1 W2) ∨ (e = .returned (.bool false) ∧ Jx (pre ++ L ++ [x]) W2)) ∨
    (e = .returned (.bool false) ∧ ∃ q, q <+: L ∧ Jx (pre ++ q) W1))
   (fun e W1 h => h.elim (fun ⟨he, hj, hk⟩ => .inl ⟨he, hk, hy2 W1 hj hk⟩) .inr))
  have ih2 := Lib.hid (fun W hJ hK => ihr (m - 1) (pre ++ L ++ [x]) W hJ hK (by simp; omega))
  have c0 : W.cell? ⟨g, 0, none⟩ = some (.pointer la) := (hK _ _ hb).cell 0
  have HB := Lib.hid hb
  clear hy2 ihl ihr hY hN hb hq
  refine callsIn_of_wp Tryz.func54 rfl trivial ?_ rfl
  simp only [Tryz.ntmps54, List.size_toArray, List.length_cons, List.length_nil, Nat.reduceAdd, Nat.reduceSub, Array.replicate_succ, Array.replicate_zero, List.push_toArray, List.append_toArray, List.nil_append, List.cons_append]
  gi_wp2_with ((try refine ⟨trivial, hdd _, ?_⟩); gi_at_call 54; refine ih1.out.mono ?_; clear ih1; rintro e W1 (⟨rfl, hk1, fn, tmps, assign, body, hy, hR⟩ | ⟨rfl, q, hq, hx1⟩))
  ·have HK1 := Lib.hid hk1
   have c1 : W1.cell? ⟨g, 1, none⟩ = some (.pointer ra) := (hk1 _ _ HB.out).cell 1
   clear hk1 c0
   refine ⟨hdd _, ?_⟩
   refine hR.mono ?_
   clear hR
   rintro e W2 (⟨rfl, hJ2, hk2⟩ | ⟨rfl, hx2⟩)
   ·have hk := HK1.out.trans hk2
    have HK := Lib.hid hk
    have HJ2 := Lib.hid hJ2
    have c1 : W2.cell? ⟨g, 1, none⟩ = some (.pointer ra) := (hk _ _ HB.out).cell 1
    clear hk hk2 hJ2 HK1
    gi_wp2_with ((try refine ⟨trivial, hdd _, ?_⟩); gi_at_call 54; refine (ih2.out _ HJ2.out HK.out).mono ?_; clear ih2; rintro e W3 (⟨rfl, hJ3, hk3⟩ | ⟨rfl, q, hq, hx3⟩))
    ·go_ret
     exact .inl ⟨rfl, by simpa [List.append_assoc] using hJ3, hk3⟩
    ·go_ret
     exact .inr ⟨rfl, L ++ x :: q, by
      obtain ⟨z, rfl⟩ := hq
      exact ⟨z, by simp⟩, by simpa [List.append_assoc] using hx3⟩
   ·gi_wp2_with (refine wpListIn_skipW rfl ?_)
    go_ret
    exact .inr ⟨rfl, L ++ [x], by exact ⟨R, by simp⟩, by simpa [List.append_assoc] using hx2⟩
  ·refine ⟨fun _ h => (by cases h), ?_⟩
   gi_wp2_with (refine wpListIn_skipW rfl ?_)
   go_ret
   exact .inr ⟨rfl, q, hq.trans (List.prefix_append _ _), hx1⟩
set_option maxHeartbeats 1000000 in
theorem nodes_stopsQ (m B s : Nat) (a : Option Addr) (t : Tr) (w : World) (P : Nd → Prop) (L : List (NdQ w P)) (hO : OrdQ w P a t L) (hB : Blk w B 24 #[.pointer (some ⟨s, 0, none⟩)]) (hS : Blk w s 100 #[.pointer a]) :
  SeqStopsK Fence.wide m Tryz.prog 53 #[.pointer (some ⟨B, 0, none⟩)] (fun x : NdQ w P => #[Value.pointer (some ⟨x.1.g, 0, none⟩)]) KN (fun ys => ys = L) (fun pre => pre <+: L) L.length w := by
 intro l J Jx W hW _ _ hY h0
 have hdd : ∀ k : Nat, (Fence.wide.depth.isSome = true → 1 ≤ k) := fun k h => by cases h
 have hp := each_inQ l L.length w P J Jx (fun m pre x W hj _ hl => YieldAt.anyDepth rfl m (hY pre x W hj hl)) hO (m - 1) [] W h0 (KN.below hW) (by simp)
 have c1 : W.cell? ⟨B, 0, none⟩ = some (.pointer (some ⟨s, 0, none⟩)) := (hW.cell (p := ⟨B, 0, none⟩) hB.lt).trans (hB.cell 0)
 have c2 : W.cell? ⟨s, 0, none⟩ = some (.pointer a) := (hW.cell (p := ⟨s, 0, none⟩) hS.lt).trans (hS.cell 0)
 refine callsIn_of_wp Tryz.func53 rfl trivial ?_ rfl
 simp only [Tryz.ntmps53, List.size_toArray, List.length_cons, List.length_nil, Nat.reduceAdd, Nat.reduceSub, Array.replicate_succ, Array.replicate_zero, List.push_toArray, List.append_toArray, List.nil_append, List.cons_append]
 gi_wp2_with ((try refine ⟨trivial, hdd _, ?_⟩); gi_at_call 54; refine hp.mono ?_; clear hp; rintro e W1 (⟨rfl, hJ1, _⟩ | ⟨rfl, q, hq, hx⟩))
 ·go_end0
  exact ⟨⟨_, rfl⟩, .inl ⟨_, rfl, by simpa using hJ1⟩⟩
 ·go_end0
  exact ⟨⟨_, rfl⟩, .inr ⟨q, hq, by simpa using hx⟩⟩
end Go.Proofs.YtpnchdgplpdefaaGreatDoor
namespace Go.Proofs.YtpnchdgplpdefaaGreatDoor
open Go.RowKit Go.Shelf
attribute [local go_sem] Oper.semAt_some
theorem infoWP : (Tryz.prog.info? 60).map (·.size) = some 1 := by kernel_rfl
theorem zvWP (w : World) : (zeroValue 60).run Tryz.prog w = .ok (.pointer none) w := by kernel_rfl
structure WrI {α : Type} (w0 w3 : World) (g2 gw : Nat) (lw : List α → List UInt8) (pre : List α) (W : World) : Prop where
 fr : Fr Nothing w0 W
 kn : KN w3 W
 box : Blk W g2 60 #[.pointer (some ⟨gw, 0, none⟩)]
 wr : ∃ v, Wr W gw v (lw pre) 0 ∧ ∀ k, v.ownBlock = some k → w0.heap.size ≤ k
theorem cells_ne {X : World} {g k : Nat} {t : TypeId} {cs : Array Value} {o : Obj} (hb : Blk X g t cs) (ho : X.heap[k]? = some o) (hc : o.isCells = false) : g ≠ k := by
 rintro rfl
 unfold Blk at hb
 rw [hb] at ho
 cases ho
 simp [Obj.isCells] at hc
theorem own_cells_ne {X : World} {e : TypeId} {sz n k : Nat} {v : Value} {xs : List Value} {o : Obj} (h : X.ownsRow 0 e sz v n xs) (ho : X.heap[k]? = some o) (hc : o.isCells = false) : v.ownBlock ≠ some k := by
 intro hk
 obtain ⟨c, f, ho'⟩ := own_block h hk
 rw [ho'] at ho
 cases ho
 simp [Obj.isCells] at hc
theorem WrI.ownFrom {α : Type} {w0 w3 : World} {g2 gw B : Nat} {lw : List α → List UInt8} (hB : w0.heap.size ≤ B) : OwnFrom B (WrI w0 w3 g2 gw lw) := by
 intro pre X Y row h hg hr
 have hf : Fr (fun k => some k = row) X Y := Fr.grown hg
 obtain ⟨v, hw, hl⟩ := h.wr
 refine ⟨h.fr.then_ hf (fun i hi e => (by have := (hr i e.symm).1; omega)), h.kn.trans (KN.fr hf (fun g cs hb e => ?_)), h.box.fr hf (fun e => ?_), ⟨v, hw.far hf (fun k hk e => ?_), hl⟩⟩
 ·obtain ⟨_, o, ho, hc⟩ := hr g e.symm
  exact cells_ne hb ho hc rfl
 ·obtain ⟨_, o, ho, hc⟩ := hr g2 e.symm
  exact cells_ne h.box ho hc rfl
 ·obtain ⟨_, o, ho, hc⟩ := hr k e.symm
  rcases hk with hk | hk
  ·exact cells_ne hw.blk ho hc hk.symm
  ·exact own_cells_ne hw.own ho hc hk
theorem WrI.step {α : Type} {w0 w3 W W1 X : World} {g2 gw B : Nat} {lw : List α → List UInt8} {pre pre' : List α} {v v3 : Value} (hI : WrI w0 w3 g2 gw lw pre W) (hgw : w0.heap.size ≤ gw)
  (hw : Wr W gw v (lw pre) 0) (hl : ∀ k, v.ownBlock = some k → w0.heap.size ≤ k) (f : Fr Nothing W W1) (st : WrStep W1 gw v X v3 (lw pre', 0)) : KeepsFrom B W X ∧ KN W X ∧ WrI w0 w3 g2 gw lw pre' X := by
 have F : Fr (WrT gw v) W X := f.weak.trans st.fr
 have K : KN W X := KN.fr F (fun g cs hb h => by
  rcases h with h | h
  ·exact blk_apart hb hw.blk (by decide) h
  ·exact own_blk_ne hw.own hb (by decide) h)
 refine ⟨⟨F.size, fun k o _ ho hc => ?_⟩, K, ?_, hI.kn.trans K, hI.box.fr F (fun h => ?_), ⟨v3, st.wr, fun k hk => ?_⟩⟩
 ·refine (F.block k (Array.getElem?_eq_some_iff.1 ho).1 ?_).trans ho
  rintro (h | h)
  ·exact cells_ne hw.blk ho hc h.symm
  ·exact own_cells_ne hw.own ho hc h
 ·refine hI.fr.then_ F (fun i hi h => ?_)
  rcases h with h | h
  ·omega
  ·have := hl i h
   omega
 ·rcases h with h | h
  ·exact blk_apart hI.box hw.blk (by decide) h
  ·exact own_blk_ne hw.own hI.box (by decide) h
 ·rcases st.lies k hk with h | h
  ·exact hl k h
  ·have := hI.fr.size
   have := f.size
   omega
def InL (LE : List Ent) (x : Nd) : Prop := (x.nm, x.v) ∈ LE
def encW {w : World} {P : Nd → Prop} (n : Nat) (ys : List (NdQ w P)) : List UInt8 := enc n ++ (ys.map ndVQ).flatMap entB
theorem encW_next {w : World} {P : Nd → Prop} (n : Nat) (ys : List (NdQ w P)) (y : NdQ w P) : encW n (ys ++ [y]) = encW n ys ++ textB (nameL y.1.nm) ++ textB (strL y.1.v) := by
 simp [encW, entB, ndVQ, List.flatMap_append, List.append_assoc]
theorem textB_str (s : ByteArray) : enc s.size ++ strL s = textB (strL s) := by rw [textB, strL_length]
theorem textB_mk (l : List UInt8) : enc (⟨l.toArray⟩ : ByteArray).size ++ strL ⟨l.toArray⟩ = textB l := by
 rw [← strL_length]
 rfl
structure SmallE (L : List Ent) : Prop where
 ok : ∀ x ∈ L, okNm x.1 = true
 owner : ∀ x ∈ L, x.1.owner.size ≤ 1048576
 text : ∀ x ∈ L, x.1.text.size ≤ 1048576
 value : ∀ x ∈ L, x.2.size ≤ 1048576
 len : L.length ≤ 60000
theorem ents_length : ∀ (L : List Ent), (∀ x ∈ L, x.1.owner.size ≤ 1048576) → (∀ x ∈ L, x.1.text.size ≤ 1048576) → (∀ x ∈ L, x.2.size ≤ 1048576) → (L.flatMap entB).length ≤ L.length * 4000000
 | [], _, _, _ => by simp
 | x :: L, h1, h2, h3 => by
  have ih := ents_length L (fun y hy => h1 y (by simp [hy])) (fun y hy => h2 y (by simp [hy])) (fun y hy => h3 y (by simp [hy]))
  have a1 := h1 x (by simp)
  have a2 := h2 x (by simp)
  have a3 := h3 x (by simp)
  have b1 := nameL_length x.1
  have b2 := enc_length (nameL x.1).length
  have b3 := enc_length (strL x.2).length
  have b4 := strL_length x.2
  simp only [List.flatMap_cons, entB, textB, List.length_append, List.length_cons] at ih ⊢
  omega
theorem encW_le {w : World} {P : Nd → Prop} (n : Nat) (ys : List (NdQ w P)) (h1 : ∀ y : NdQ w P, y.1.nm.owner.size ≤ 1048576) (h2 : ∀ y : NdQ w P, y.1.nm.text.size ≤ 1048576) (h3 : ∀ y : NdQ w P, y.1.v.size ≤ 1048576) : (encW n ys).length ≤ 10 + ys.length * 4000000 := by
 have h := ents_length (ys.map ndVQ) (fun x hx => by obtain ⟨y, _, rfl⟩ := List.mem_map.1 hx; exact h1 y) (fun x hx => by obtain ⟨y, _, rfl⟩ := List.mem_map.1 hx; exact h2 y) (fun x hx => by obtain ⟨y, _, rfl⟩ := List.mem_map.1 hx; exact h3 y)
 have h5 := enc_length n
 rw [List.length_map] at h
 simp only [encW, List.length_append]
 omega
def Encoded (w : World) (l : List UInt8) (e : Ending) (w' : World) : Prop := ∃ v, e = .returned v ∧ GrewB w (.slice none 0 0) w' v l
set_option maxRecDepth 100000 in
set_option maxHeartbeats 4000000 in
theorem SEnc_any (LE : List Ent) (s : Nat) (w : World) (hS0 : StL w s LE) (hU : UsaT w) (hE : SmallE LE) : Calls Tryz.prog 6 #[.pointer (some ⟨s, 0, none⟩)] w (Encoded w (encS LE)) := by
  obtain ⟨t, hSt, het⟩ := hS0
  have hz0 : t.size = LE.length := by rw [← t.toL_length, het]
  have CN := Lib.hid (fun w => nodes_any (some ⟨s, 0, none⟩) w)
  have HE := Lib.hid hE
  have HET := Lib.hid het
  have HZ := Lib.hid hz0
  have HU := Lib.hid hU
  have HS := Lib.hid hSt
  have HLEN : Hid ((encS LE).length ≤ 250000000000) := by
    have h1 := ents_length LE hE.owner hE.text hE.value
    have h2 := enc_length LE.length
    have h3 := hE.len
    simp only [Hid, encS, List.length_append]
    omega
  clear hSt het hz0 hE hU
  refine (callsIn_wide (n := 6)).1 (callsIn_of_wp_marks Tryz.func6 rfl trivial (wpIn_wide.2 ?_) rfl)
  simp only [Tryz.ntmps6, List.size_toArray, List.length_cons, List.length_nil, Nat.reduceAdd, Nat.reduceSub, Array.replicate_succ, Array.replicate_zero, List.push_toArray, List.append_toArray, List.nil_append, List.cons_append]
  go_wp2_with fail
  refine (NewWriter_any _).mono ?_
  rintro r w1 ⟨rfl, hw1, f1⟩
  have HGW : Sz w w.heap.size := Nat.le_refl _
  generalize w.heap.size = gw at *
  have W1 := Lib.hid hw1
  have F1 := Lib.hid f1
  clear hw1 f1
  go_wp2_with (refine wpList_allocBlk rfl 60 rfl (.pointer none) zvWP #[.pointer none] rfl ?_)
  intro w2 n2
  have N2 := Lib.hid n2
  clear n2
  have HG2 : Sz w w1.heap.size := F1.out.size
  generalize hg2 : w1.heap.size = g2 at *
  have HGG := Lib.hid hg2
  clear hg2
  have B2 : Hid (Blk w2 g2 60 #[.pointer none]) := by have h := N2.out.blk; rw [HGG.out] at h; exact h
  go_wp2_with (refine wpList_store1 rfl 60 (.tmp 3) _ rfl g2 (.pointer (some ⟨gw, 0, none⟩)) rfl rfl rfl _ _ B2.out infoWP ?_)
  intro w3 b3 f3
  have F13 : Hid (Fr Nothing w1 w3) := N2.out.fr.then_ f3 (fun i hi e => by have e' : i = g2 := e; have := HGG.out; omega)
  have F3 := Lib.hid (F1.out.trans F13.out)
  have B3 := Lib.hid b3
  have W3 : Hid (Wr w3 gw (.slice none 0 0) [] 0) := W1.out.far F13.out (fun _ _ x => x)
  clear b3 f3 N2 B2 W1 F1 F13
  have CL : Hid (∀ w', Fr Nothing w3 w' → Calls Tryz.prog 22 #[.pointer (some ⟨s, 0, none⟩)] w' (SameW w' (.int .i64 (LE.length : Int)))) := fun w' f => by
    rw [← HZ.out]
    exact Len_any w' s t (HS.out.fr0 (F3.out.trans f))
  go_upto_region 4 with fail
  refine wp_region_st 3 Nothing [Is (.pointer (some ⟨gw, 0, none⟩)), Is (.pointer (some ⟨s, 0, none⟩)), Is (.int .i64 (LE.length : Int))] [] (fun _ => True) (fun _ _ => false) (by kernel_rfl) (by kernel_rfl) (by kernel_rfl) (by kernel_rfl) ⟨Is.stable _, Is.stable _, Is.stable _, trivial⟩ trivial (fun _ _ _ _ h => h) trivial ?_ ?_
  · refine ⟨?a11_0, ?a11_1, ?a11_2, trivial⟩
    all_goals intro u w' d hf hR k1 k0 kM
    all_goals simp only [List.take_succ_cons, List.take_zero, List.map_cons, List.map_nil, puts, Act.put, List.setIfInBounds_toArray, List.set_cons_zero, List.set_cons_succ, Nat.reduceAdd, Nat.zero_add]
    case a11_0 =>
      clear hR k1 k0 kM
      refine .inl ⟨by kernel_rfl, ?_⟩
      have q : _ = some (Value.pointer (some ⟨gw, 0, none⟩)) := (B3.out.fr hf (fun x => x)).cell 0
      go_simp
      exact ⟨_, rfl, Fr.refl _ _, rfl, trivial⟩
    case a11_2 =>
      simp only [show u 1 = _ from hR 1 (by kernel_rfl)]
      clear hR k1 k0 kM
      refine .inl ⟨by kernel_rfl, ?_⟩
      go_simp
      refine (CL.out _ hf).mono ?_
      rintro e w4 ⟨rfl, rfl⟩
      exact ⟨_, rfl, Fr.refl _ _, rfl, trivial⟩
    all_goals
      clear hR k1 k0 kM
      refine .inl ⟨by kernel_rfl, ?_⟩
      go_simp
      exact ⟨_, rfl, Fr.refl _ _, rfl, trivial⟩
  · intro u w' hf hR kM
    have k0 : u 0 = _ := hR 0 (by omega)
    have k2 : u 2 = _ := hR 2 (by omega)
    clear hR kM
    simp only [List.take_succ_cons, List.take_zero, List.map_cons, List.map_nil, puts, Act.put, List.setIfInBounds_toArray, List.set_cons_zero, List.set_cons_succ, List.drop_succ_cons, List.drop_zero, Nat.reduceAdd, Nat.zero_add, k0, k2]
    have W4 : Hid (Wr w' gw (.slice none 0 0) [] 0) := W3.out.far hf (fun _ _ x => x)
    have B4 := Lib.hid (B3.out.fr hf (fun x => x))
    have F4 := Lib.hid (F3.out.trans hf)
    have HLL : Hid (LE.length ≤ 60000) := HE.out.len
    clear hf k0 k2 CL W3 B3 F3
    generalize w' = w4 at *
    go_wp2_with fail
    refine (wNumber_any gw _ _ 0 (LE.length : Int) _ W4.out (by simp) (by have := HLL.out; omega)).mono ?_
    rintro e w5 ⟨rfl, v5, st5⟩
    rw [wNumber_pos, List.nil_append] at st5
    have F45 : Hid (Fr Nothing w w5) := F4.out.then_ st5.fr (fun i hi e => by have e' := wrT_nil e; have := HGW; unfold Sz at this; omega)
    have B5 : Hid (Blk w5 g2 60 #[.pointer (some ⟨gw, 0, none⟩)]) := B4.out.fr st5.fr (fun e => blk_apart B4.out W4.out.blk (by decide) (wrT_nil e))
    have W5 := Lib.hid st5.wr
    have L5 : Hid (∀ k, v5.ownBlock = some k → w.heap.size ≤ k) := fun k hk => by
      rcases st5.lies k hk with h | h
      · simp [Value.ownBlock] at h
      · have := F4.out.size
        omega
    clear st5 F4 B4 W4
    go_wp2_with fail
    refine (CN.out _).mono ?_
    rintro r w6 ⟨rfl, f6, b6⟩
    have F6 := Lib.hid (F45.out.trans f6)
    have B6 := Lib.hid (B5.out.fr f6 (fun x => x))
    have W6 : Hid (Wr w6 gw v5 (enc LE.length) 0) := W5.out.far f6 (fun _ _ x => x)
    have G6 := Lib.hid b6
    have L6 : Hid (∀ k, v5.ownBlock = some k → w.heap.size ≤ k) := L5.out
    clear f6 b6 F45 B5 W5 L5
    generalize w5.heap.size = gs at *
    obtain ⟨a3, hs3, hn3⟩ := HS.out.fr0 F6.out
    obtain ⟨L, hL⟩ := OrdQ.of (P := InL LE) hn3 (fun g e he => by unfold InL; rw [← HET.out]; exact he)
    have LL : Hid (L.map ndVQ = LE) := hL.toL.trans HET.out
    have LZ : Hid (L.length = LE.length) := by simp only [Hid]; have h := congrArg List.length LL.out; simpa using h
    have HO := Lib.hid hL
    have HS3 := Lib.hid hs3
    clear hs3 hn3 hL
    go_wp2_with fail
    refine (wpIn_wide (n := 6)).1 ?_
    refine wpIn_rangeFunc_ownG rfl (by omega) (gf := 53) (lb := #[.pointer (some ⟨gs, 0, none⟩)]) rfl trivial (enters_of Tryz.func53 (by kernel_rfl) rfl)
      (nodes_stopsQ 5 gs s a3 t w6 (InL LE) L HO.out G6.out HS3.out) (fun h k => h.trans k) (fun W l o o' _ ho hc _ => KN.put W l o o' ho hc) (Below.refl _ _) (fun _ => rfl)
      (WrI w w6 g2 gw (fun ys : List (NdQ w6 (InL LE)) => encW LE.length ys)) (fun _ _ _ => False) (WrI.ownFrom F6.out.size) (fun _ _ _ _ _ h _ _ => h.elim)
      ⟨F6.out, KN.refl _, B6.out, v5, by simpa [encW] using W6.out, L6.out⟩ ?a1 ?assign ?body ?done ?stop
    case assign =>
      intro l x W K hK
      gi_wp2
      exact hK
    case body =>
      rintro l' pre x W hI hlt
      have HI := Lib.hid hI
      have HL := Lib.hid hlt
      obtain ⟨hfr, hkn, hbox, ⟨v, hwr, hlies⟩⟩ := hI
      have HFR := Lib.hid hfr
      have HWR := Lib.hid hwr
      have HLI := Lib.hid hlies
      have HBX := Lib.hid hbox
      have MX := Lib.hid (x.2.1.kn hkn).mid
      have PX : Hid ((x.1.nm, x.1.v) ∈ LE) := x.2.2
      have HNX := Lib.hid (encW_next LE.length pre x)
      have HNL : Hid ((encW LE.length (pre ++ [x])).length ≤ 250000000000 + 3000000) := by
        have h1 := HE.out.owner _ PX.out
        have h2 := HE.out.text _ PX.out
        have h3 := HE.out.value _ PX.out
        have h4 := nameL_length x.1.nm
        have h5 := enc_length (nameL x.1.nm).length
        have h6 := enc_length (strL x.1.v).length
        have h7 := strL_length x.1.v
        have h8 := encW_le LE.length pre (fun y => HE.out.owner _ y.2.2) (fun y => HE.out.text _ y.2.2) (fun y => HE.out.value _ y.2.2)
        have h9 := HL.out
        have h10 := LZ.out
        have h11 := HLL.out
        simp only at h1 h2 h3
        simp only [Hid]
        rw [encW_next]
        simp only [textB, List.length_append]
        omega
      have UW : Hid (UsaT W) := HU.out.fr0 hfr
      obtain ⟨y, hy⟩ : ∃ y : NdQ w6 (InL LE), y = x := ⟨x, rfl⟩
      have HYX := Lib.hid hy
      rw [← hy] at HNX HNL
      obtain ⟨⟨gx, nx, vx⟩, hx, hp⟩ := x
      rw [HYX.out] at HNX HNL
      simp only at MX PX HNX ⊢
      have CE : Hid (Calls Tryz.prog 24 #[.agg nx.cells.toArray] W (Same' W (.tuple #[.string ⟨(nameL nx).toArray⟩, .int .i64 0]))) := NEnc_any nx W UW.out (by have := HE.out.owner _ PX.out; simp only at this; omega) (by have := HE.out.text _ PX.out; simp only at this; omega) (HE.out.ok _ PX.out)
      have VX : Hid (vx.size ≤ 1048576) := HE.out.value _ PX.out
      have NLX : Hid ((nameL nx).length ≤ 3000000) := by
        have h1 := HE.out.owner _ PX.out
        have h2 := HE.out.text _ PX.out
        have h4 := nameL_length nx
        simp only at h1 h2
        simp only [Hid]
        omega
      clear hfr hkn hbox hwr hlies hy UW hlt
      gi_wp2_with (refine wpListIn_round1 (opLoads 44) rfl (by kernel_rfl) ?_)
      refine wpList_load_add rfl 44 (.tmp 22) rfl ⟨gx, 2, none⟩ rfl nx.cells _ ?hcc Tryz.underlying44 rfl infoName (Held.go ?hold)
      case hcc => exact fun j v hv => by rw [Addr.add_mid]; exact MX.out.name j v hv
      unfold Held
      go_wp2_with fail
      refine CE.out.mono ?_
      rintro e X1 ⟨rfl, f1⟩
      have WR1 : Hid (Wr X1 gw v (encW LE.length pre) 0) := HWR.out.far f1 (fun _ _ x => x)
      have BX1 := Lib.hid (HBX.out.fr f1 (fun x => x))
      have MX1 := Lib.hid (MX.out.fr0 f1)
      have FX1 := Lib.hid f1
      clear f1 CE
      go_wp2
      show Code.wpIn (Fence.wide.inRound l') (6 - 1 - 1) Tryz.prog _ _ _ _
      have c11 : X1.cell? ⟨g2, 0, none⟩ = some (.pointer (some ⟨gw, 0, none⟩)) := BX1.out.cell 0
      gi_wp2_with (refine wpListIn_round1 (opLoads 60) rfl (by kernel_rfl) ?_)
      have HPL : Hid ((encW LE.length pre).length ≤ 260000000000) := by
        have h := HNL.out
        rw [HNX.out] at h
        simp only [List.length_append] at h
        simp only [Hid]
        omega
      go_wp2_with fail
      refine (wText_any gw v _ 0 ⟨(nameL nx).toArray⟩ _ WR1.out (by have := HPL.out; omega) (by have := NLX.out; rw [← strL_length]; exact Nat.le_trans this (by decide))).mono ?_
      rintro e X2 ⟨rfl, v2, st2⟩
      rw [wText_small _ _ (by have h := NLX.out; have e : (⟨(nameL nx).toArray⟩ : ByteArray).size = (nameL nx).length := by rw [← strL_length]; rfl
                              omega), textB_mk] at st2
      have ST2 := Lib.hid st2
      have BX2 : Hid (Blk X2 g2 60 #[.pointer (some ⟨gw, 0, none⟩)]) := BX1.out.fr st2.fr (fun h => by
        rcases h with h | h
        · exact blk_apart BX1.out WR1.out.blk (by decide) h
        · exact own_blk_ne WR1.out.own BX1.out (by decide) h)
      have MX2 : Hid (Mid X2 gx nx vx) := ((⟨⟨gx, nx, vx⟩, hx, hp⟩ : NdQ w6 (InL LE)).2.1.kn ((HI.out.kn.trans (KN.fr FX1.out (fun _ _ _ x => x))).trans (KN.fr st2.fr (fun g cs hb h => by
        rcases h with h | h
        · exact blk_apart hb WR1.out.blk (by decide) h
        · exact own_blk_ne WR1.out.own hb (by decide) h)))).mid
      clear st2 c11 MX MX1 HPL
      go_wp2
      show Code.wpIn (Fence.wide.inRound l') (6 - 1 - 1) Tryz.prog _ _ _ _
      gi_wp2
      refine wpIn_round_st 5 Nothing [Is (.pointer (some ⟨gw, 0, none⟩)), Is (.pointer (some ⟨gx, 0, none⟩)), Is (.pointer (some ⟨gx, 0, none⟩)), Is (.pointer (some ⟨gx, 7, none⟩)), Is (.string vx)] [] (fun _ => True) (fun _ _ => false) (by kernel_rfl) (by kernel_rfl) (by kernel_rfl) (by kernel_rfl) (by kernel_rfl) ⟨Is.stable _, Is.stable _, Is.stable _, Is.stable _, Is.stable _, trivial⟩ trivial (fun _ _ _ _ h => h) trivial ?_ ?_
      · refine ⟨?a12_0, ?a12_1, ?a12_2, ?a12_3, ?a12_4, trivial⟩
        all_goals intro u w' d hf hR k1 k0 kM
        all_goals simp only [List.take_succ_cons, List.take_zero, List.map_cons, List.map_nil, puts, Act.put, List.setIfInBounds_toArray, List.set_cons_zero, List.set_cons_succ, Nat.reduceAdd, Nat.zero_add]
        case a12_0 =>
          clear hR k1 k0 kM
          refine .inl ⟨by kernel_rfl, ?_⟩
          have q : _ = some (Value.pointer (some ⟨gw, 0, none⟩)) := (BX2.out.fr hf (fun x => x)).cell 0
          go_simp
          exact ⟨_, rfl, Fr.refl _ _, rfl, trivial⟩
        case' a12_2 => simp only [show u 1 = _ from hR 1 (by kernel_rfl)]
        case' a12_3 => simp only [show u 2 = _ from hR 2 (by kernel_rfl)]
        case a12_4 =>
          simp only [show u 3 = _ from hR 3 (by kernel_rfl)]
          clear hR k1 k0 kM
          refine .inl ⟨by kernel_rfl, ?_⟩
          have q := (MX2.out.fr0 hf).val
          go_simp
          exact ⟨_, rfl, Fr.refl _ _, rfl, trivial⟩
        all_goals
          clear hR k1 k0 kM
          refine .inl ⟨by kernel_rfl, ?_⟩
          go_simp
          exact ⟨_, rfl, Fr.refl _ _, rfl, trivial⟩
      · intro u w' hf hR kM
        have k0 : u 0 = _ := hR 0 (by omega)
        have k4 : u 4 = _ := hR 4 (by omega)
        clear hR kM
        simp only [List.take_succ_cons, List.take_zero, List.map_cons, List.map_nil, puts, Act.put, List.setIfInBounds_toArray, List.set_cons_zero, List.set_cons_succ, List.drop_succ_cons, List.drop_zero, Nat.reduceAdd, Nat.zero_add, k0, k4]
        have ST3 : Hid (WrStep X1 gw v w' v2 (encW LE.length pre ++ textB (nameL nx), 0)) := ⟨ST2.out.wr.far hf (fun _ _ x => x), ST2.out.fr.trans hf.weak, ST2.out.lies⟩
        have HPL : Hid ((encW LE.length pre ++ textB (nameL nx)).length ≤ 260000000000) := by
          have h := HNL.out
          rw [HNX.out] at h
          simp only [List.length_append] at h ⊢
          simp only [Hid]
          omega
        clear hf k0 k4 ST2 BX2 MX2
        go_wp2_with fail
        refine (wText_any gw v2 _ 0 vx _ ST3.out.wr (by have := HPL.out; simp only; omega) (by have := VX.out; omega)).mono ?_
        rintro e X3 ⟨rfl, v3, st3⟩
        rw [wText_small _ _ (by have := VX.out; omega), textB_str] at st3
        have ST := Lib.hid (ST3.out.trans st3)
        clear st3
        go_wp2
        have ST' : WrStep X1 gw v X3 v3 (encW LE.length (pre ++ [(⟨⟨gx, nx, vx⟩, hx, hp⟩ : NdQ w6 (InL LE))]), 0) := by
          rw [HNX.out]
          exact ST.out
        exact WrI.step HI.out HGW HWR.out HLI.out FX1.out ST'
    case done =>
      rintro D xs W hD rfl hI hK
      obtain ⟨hf, hkn, hbox, ⟨v, hwr, hlies⟩⟩ := hI
      have PF : Fr (fun k => some k = some D) W (W.putObj D (.deferred none)) := Fr.grown (grownBy_putObj' W D _)
      have KD := Lib.hid hK
      have HF := Lib.hid hf
      have JW : Hid (Wr W gw v (encS LE) 0) := by
        have h : encW LE.length xs = encS LE := by rw [encW, LL.out]; rfl
        rw [← h]
        exact hwr
      have HDD : Hid (w.heap.size ≤ D ∧ D < W.heap.size) := ⟨by have := F6.out.size; have := hD; omega, (Array.getElem?_eq_some_iff.1 hK).1⟩
      have c11 := hbox.cell 0
      simp only [List.getElem?_toArray, List.getElem?_cons_zero] at c11
      clear PF hf hbox hwr hlies hD hK hkn
      go_wp2_with fail
      refine (wBytes_any gw _ _ _ _ JW.out (by have := HLEN.out; omega)).mono ?_
      rintro e w8 ⟨_, hx⟩
      obtain ⟨v8, rfl, hg8⟩ := hx rfl
      have KD8 : Hid (w8.heap[D]? = W.heap[D]?) := hg8.fr0.block D HDD.out.2 (fun x => x)
      have G8 := Lib.hid hg8
      obtain ⟨A8, n8, c8, rfl, _, _⟩ := own_slice hg8.own
      clear hg8 hx c11
      go_wp2
      rw [KD.out] at KD8
      refine ⟨by simp, .inl ⟨_, _, rfl, run_takeDeferred KD8.out, ?_⟩⟩
      refine ⟨_, results_tmp Tryz.results6 _ _ _, ?_⟩
      have PF : Fr (fun k => some k = some D) w8 (w8.putObj D (.deferred none)) := Fr.grown (grownBy_putObj' w8 D _)
      have JF : Fr Nothing w (w8.putObj D (.deferred none)) := (HF.out.trans G8.out.fr0).then_ PF (fun i hi e => by have e' : i = D := (by simpa using e); have := HDD.out.1; omega)
      refine ⟨_, rfl, ⟨own_fr G8.out.own PF (fun k hk e => ?_), JF.weak, fun k hk => .inr ?_⟩⟩
      · have e' : k = D := by simpa using e
        exact own_cells_ne G8.out.own KD8.out rfl (by rw [← e']; exact hk)
      · have := G8.out.new k hk
        have := HF.out.size
        omega
    case stop =>
      rintro D cd pre W hD _ h
      exact h.elim
theorem GoodK.small {k : Nat} {L : List Ent} (h : GoodK k L) (hk : k ≤ 60000) : SmallE L := ⟨h.ok, fun x hx => by have := h.owner x hx; omega, fun x hx => by have := h.text x hx; omega, fun x hx => by have := h.value x hx; omega, by have := h.len; omega⟩
def BytesV (l : List UInt8) (v : Value) (w : World) : Prop := ∃ A n c, v = .slice A n c ∧ OwnB w (.slice A n c) l ∧ n = l.length
theorem BytesV.fr0 {l : List UInt8} {v : Value} {w w' : World} (h : BytesV l v w) (hf : Fr Nothing w w') : BytesV l v w' := by
 obtain ⟨A, n, c, e, ho, hn⟩ := h
 exact ⟨A, n, c, e, own_fr ho hf (fun _ _ x => x), hn⟩
theorem Encoded.bytes {w w' : World} {l : List UInt8} {e : Ending} (h : Encoded w l e w') : ∃ v, e = .returned v ∧ BytesV l v w' ∧ Fr Nothing w w' := by
 obtain ⟨v, rfl, hg⟩ := h
 obtain ⟨A, n, c, rfl, hn, _⟩ := own_slice hg.own
 exact ⟨_, rfl, ⟨A, n, c, rfl, hg.own, hn.out⟩, hg.fr0⟩
end Go.Proofs.YtpnchdgplpdefaaGreatDoor
