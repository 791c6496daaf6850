/- State: object.Decode (written by genSci.py). -/
import Derived.Test.YtpnchdgplpdefaaGreatDoorEnGwR
import Derived.Test.YtpnchdgplpdefaaGreatDoorEnGwE
import Derived.Lib.ConvBytes
import Derived.Deep.DeepCutAuto
namespace Go.Proofs.YtpnchdgplpdefaaGreatDoor
open Go.RowKit Go.Shelf
theorem conv_bytes (w : World) (s : ByteArray) : ∃ c w1, (convert 9 28 (.string s)).run Tryz.prog w = .ok (.slice (some ⟨w.heap.size, 0, none⟩) s.size c) w1 ∧ Fr Nothing w w1 ∧ Rd w1 (fun k => k = w.heap.size) 1 (some ⟨w.heap.size, 0, none⟩) s.size ((strL s).map bv) := by
 refine ⟨_, _, Lib.run_convert_string_bytes w 9 28 5 s Tryz.underlying9 Tryz.underlying28 Tryz.underlying5, ⟨rfl, rfl, rfl, ?_, fun k hk _ => Lib.bytesWorld_at_old w _ s k hk⟩, ?_, fun _ => ⟨_, rfl, rfl, fun j u hu => ?_⟩⟩
 ·rw [Lib.bytesWorld_size]; omega
 ·rw [List.length_map, strL_length, Nat.mul_one]
 ·rw [List.getElem?_map] at hu
  cases hj : (strL s)[j]? with
  | none => rw [hj] at hu; cases hu
  | some x =>
   rw [hj] at hu
   simp only [Option.map_some, Option.some.injEq] at hu
   have hjl : j < s.size := by rw [← strL_length]; exact (List.getElem?_eq_some_iff.1 hj).1
   rw [show (⟨w.heap.size, 0, none⟩ : Addr).add j = ⟨w.heap.size, j, none⟩ by unfold Addr.add; split <;> simp_all, Lib.bytesWorld_cell w _ s j hjl]
   unfold strL at hj
   rw [List.getD_eq_getElem?_getD, hj, ← hu]
   rfl
theorem results_cell_slotN {P : Program} {fn : Func} {p q : Tmp} {ty : TypeId} (h : fn.results = #[.cell p ty, .tmp q]) (tmps : Array Value) (w : World) (g : Nat) (t : TypeId) (cs : Array Value) (fr : Nat × Nat) (d : TypeDesc)
  (hp : tmps.getD p undef = .pointer (some ⟨g, 0, none⟩)) (hg : w.heap[g]? = some (.cells cs t fr))
  (hu : P.underlying ty = some d) (hd : (match d with | .struct _ | .array _ _ => true | _ => false) = true) (hi : (P.info? ty).map (·.size) = some cs.size) (v : Value) (hv : tmps.getD q undef = v) :
  (results fn tmps).run P w = .ok (.tuple #[.agg cs, v]) w := by
 have hp' : tmps[p]?.getD undef = .pointer (some ⟨g, 0, none⟩) := by simpa using hp
 have hv' : tmps[q]?.getD undef = v := by simpa using hv
 simp [results, h, hp', hv', asAddr, run_loadVar_row w g t ty cs fr d hg hu hd hi]
def dst0 (l : List UInt8) : Int × (List UInt8 × Nat × Int) := rStep 0 (pNumber 20) (l, 0, 0)
def dst1 (u : Usa) (st : List UInt8 × Nat × Int) : List UInt8 × (List UInt8 × Nat × Int) := if u.owner then rStep [] (pText 16777216) st else ([], st)
def dst2 (u : Usa) (st : List UInt8 × Nat × Int) : Int × (List UInt8 × Nat × Int) := if u.number then rStep 0 (pNumber 1073741824) st else (0, st)
def dst3 (u : Usa) (st : List UInt8 × Nat × Int) : Int × (List UInt8 × Nat × Int) := if u.index then rStep 0 (pNumber u.most) st else (0, st)
def dst4 (u : Usa) (st : List UInt8 × Nat × Int) : List UInt8 × (List UInt8 × Nat × Int) := if u.text then rStep [] (pText 32) st else ([], st)
def closeN (st : List UInt8 × Nat × Int) : Int := if st.2.2 = 0 then (if 0 < st.1.length then 5 else 0) else st.2.2
def readN (u : Usa) (l : List UInt8) : NameV × (List UInt8 × Nat × Int) :=
 (⟨(dst0 l).1, ⟨(dst1 u (dst0 l).2).1.toArray⟩, (dst2 u (dst1 u (dst0 l).2).2).1, (dst3 u (dst2 u (dst1 u (dst0 l).2).2).2).1, ⟨(dst4 u (dst3 u (dst2 u (dst1 u (dst0 l).2).2).2).2).1.toArray⟩⟩, (dst4 u (dst3 u (dst2 u (dst1 u (dst0 l).2).2).2).2).2)
theorem dst0_le (l : List UInt8) : 0 ≤ (dst0 l).1 ∧ (dst0 l).1 ≤ 20 := by
 unfold dst0 rStep
 simp only [ne_eq, not_true_eq_false, if_false]
 split
 ·omega
 next h =>
  simp only [pNumber] at h ⊢
  split at h
  ·omega
  next h2 =>
   have h3 : (pn l 9).2.2 = 0 := by omega
   have : ¬ (20 : Int) < ((pn l 9).1 : Int) := fun e => h2 ⟨h3, e⟩
   omega
def nmD (k : Int) (ow : ByteArray) (nu ix : Int) (tx : ByteArray) : Array Value := #[.int .i64 k, .string ow, .int .i64 nu, .int .i64 ix, .string tx]
theorem builtNm1 (k : Int) : Tryz.prog.built 44 [(0, .int .i64 k)] = some (nmD k ByteArray.empty 0 0 ByteArray.empty) := by kernel_rfl
theorem builtNm0 : Tryz.prog.built 44 [] = some (nmD 0 ByteArray.empty 0 0 ByteArray.empty) := by kernel_rfl
theorem infoNm5 : (Tryz.prog.info? 44).map (·.size) = some 5 := by kernel_rfl
theorem infoLin : (Tryz.prog.info? 42).map (·.size) = some 1 := by kernel_rfl
theorem infoInt1 : (Tryz.prog.info? 3).map (·.size) = some 1 := by kernel_rfl
theorem zvNameO (w : World) : (zeroValue 44).run Tryz.prog w = .ok nameZ w := by kernel_rfl
structure RS (w W : World) (g gn gu gr : Nat) (S : Nat → Prop) (us nm : Array Value) (st : List UInt8 × Nat × Int) : Prop where
 rr : Rr W g S st.1 st.2.1 st.2.2
 nb : Blk W gn 44 nm
 ub : Blk W gu 112 us
 rb : Blk W gr 44 (nmD 0 ByteArray.empty 0 0 ByteArray.empty)
 fr : Fr Nothing w W
structure Apart (w : World) (g gn gu gr : Nat) (S : Nat → Prop) : Prop where
 g_ : w.heap.size ≤ g
 n_ : w.heap.size ≤ gn
 ne : gn ≠ gr
 sn : ¬ S gn
theorem RS.step {w W W' : World} {g gn gu gr : Nat} {S : Nat → Prop} {us nm : Array Value} {st st' : List UInt8 × Nat × Int} (h : RS w W g gn gu gr S us nm st) (a : Apart w g gn gu gr S) (k : RrStep W g S W' st'.1 st'.2.1 st'.2.2) : RS w W' g gn gu gr S us nm st' := by
 obtain ⟨⟨A, n, c, hb, _, _⟩, _, _⟩ := h.rr
 have ne : ∀ {x : Nat} {t : TypeId} {cs : Array Value}, Blk W x t cs → t ≠ 116 → ¬ Only g x := fun hx ht e => blk_apart hx hb ht e
 exact ⟨k.rr, h.nb.fr k.fr (ne h.nb (by decide)), h.ub.fr k.fr (ne h.ub (by decide)), h.rb.fr k.fr (ne h.rb (by decide)), h.fr.then_ k.fr (fun i hi e => by have e' : i = g := e; have := a.g_; omega)⟩
theorem RS.put {w W W' : World} {g gn gu gr : Nat} {S : Nat → Prop} {us nm nm' : Array Value} {st : List UInt8 × Nat × Int} (h : RS w W g gn gu gr S us nm st) (a : Apart w g gn gu gr S) (hb : Blk W' gn 44 nm') (f : Fr (fun k => k = gn) W W') : RS w W' g gn gu gr S us nm' st := by
 have h0 := h.rr
 obtain ⟨⟨A, n, c, hbb, _, _⟩, _, _⟩ := h.rr
 refine ⟨h0.keep f (fun e => blk_apart h.nb hbb (by decide) e.symm) (fun k hk e => ?_), hb, h.ub.fr f (fun e => blk_apart h.nb h.ub (by decide) e.symm), h.rb.fr f (fun e => a.ne e.symm), h.fr.then_ f (fun i hi e => by have e' : i = gn := e; have := a.n_; omega)⟩
 have e' : k = gn := e
 rw [e'] at hk
 exact a.sn hk
def NDecoded (w : World) (nm : NameV) (st : List UInt8 × Nat × Int) (e : Ending) (w' : World) : Prop := ∃ n k, e = .returned (.tuple #[.agg n, .int .i64 k]) ∧ Fr Nothing w w' ∧
 ((closeN st = 0 ∧ okNm nm = true ∧ n = nm.cells.toArray ∧ k = 0) ∨ (¬ (closeN st = 0 ∧ okNm nm = true) ∧ n = nmD 0 ByteArray.empty 0 0 ByteArray.empty ∧ k = 3))
set_option maxRecDepth 100000 in
set_option maxHeartbeats 4000000 in
theorem NDec_walk (s : ByteArray) (u : Usa) (w : World) (hU : UsaT w) (hs : s.size ≤ 16777216) (hu : usaL[(dst0 (strL s)).1.toNat]? = some u) :
  Calls Tryz.prog 31 #[.string s] w (NDecoded w (readN u (strL s)).1 (readN u (strL s)).2) := by
 have HK := Lib.hid (dst0_le (strL s))
 obtain ⟨l, hl⟩ : ∃ l, strL s = l := ⟨_, rfl⟩
 have HLL : Hid (l.length ≤ 16777216) := by rw [← hl]; simp only [Hid]; rw [strL_length]; exact hs
 rw [hl] at hu HK
 rw [hl]
 obtain ⟨k, hk⟩ : ∃ k : Nat, (dst0 l).1 = (k : Int) := ⟨(dst0 l).1.toNat, by have := HK.out; omega⟩
 rw [hk, Int.toNat_natCast] at hu
 have UR : Hid (∀ j v, u.cells[j]? = some v → w.cell? ⟨0, k * 6 + j, none⟩ = some v) := hU.row k _ hu
 have HD0 : Hid (dst0 l = ((k : Int), (dst0 l).2)) := by simp only [Hid]; rw [← hk]
 have k1 : (k : Int) < 21 := by have := HK.out; rw [hk] at this; omega
 have k2 : k < 21 := by omega
 have k3 : (0 : Int) ≤ (k : Int) := by omega
 have HSZ : Hid (s.size = l.length ∧ strL s = l) := ⟨by rw [← hl, strL_length], hl⟩
 have CH : Hid (∀ n : NameV, n.owner.size ≤ 1099511627776 → n.text.size ≤ 1099511627776 → ∀ w', Fr Nothing w w' → Calls Tryz.prog 44 #[.agg n.cells.toArray] w' (Checked w' n)) := fun n h1 h2 w' f => Check_any n w' (hU.fr0 f) h1 h2
 have HOS : Hid (∀ (st : List UInt8 × Nat × Int) (most : Int), (rStep [] (pText most) st).1.length ≤ 16777216) := fun st most => by
  unfold rStep
  split
  ·simp
  ·split
   ·simp
   next h =>
    simp only [pText] at h ⊢
    split
    ·simp
    ·split
     ·simp
     ·split
      ·simp
      next h1 h2 h3 =>
       simp only [List.length_take]
       omega
 obtain ⟨wd, bo, bn, bi, bt, mo⟩ := u
 obtain ⟨a1, ha1⟩ : ∃ a, dst1 ⟨wd, bo, bn, bi, bt, mo⟩ (dst0 l).2 = a := ⟨_, rfl⟩
 obtain ⟨a2, ha2⟩ : ∃ a, dst2 ⟨wd, bo, bn, bi, bt, mo⟩ a1.2 = a := ⟨_, rfl⟩
 obtain ⟨a3, ha3⟩ : ∃ a, dst3 ⟨wd, bo, bn, bi, bt, mo⟩ a2.2 = a := ⟨_, rfl⟩
 obtain ⟨a4, ha4⟩ : ∃ a, dst4 ⟨wd, bo, bn, bi, bt, mo⟩ a3.2 = a := ⟨_, rfl⟩
 have hrn : readN ⟨wd, bo, bn, bi, bt, mo⟩ l = (⟨(k : Int), ⟨a1.1.toArray⟩, a2.1, a3.1, ⟨a4.1.toArray⟩⟩, a4.2) := by
  rw [readN, ha1, ha2, ha3, ha4, hk]
 rw [hrn]
 obtain ⟨nm, hnm⟩ : ∃ nm : NameV, nm = ⟨(k : Int), ⟨a1.1.toArray⟩, a2.1, a3.1, ⟨a4.1.toArray⟩⟩ := ⟨_, rfl⟩
 rw [← hnm]
 have HNM := Lib.hid hnm
 clear hnm
 have HA1 := Lib.hid ha1
 have HA2 := Lib.hid ha2
 have HA3 := Lib.hid ha3
 have HA4 := Lib.hid ha4
 have L1 : Hid (a1.1.length ≤ 16777216) := by
  rw [← ha1]
  unfold dst1
  split
  ·exact HOS.out _ _
  ·simp [Hid]
 have L4 : Hid (a4.1.length ≤ 16777216) := by
  rw [← ha4]
  unfold dst4
  split
  ·exact HOS.out _ _
  ·simp [Hid]
 clear hu hU hk HK hrn ha1 ha2 ha3 ha4 HOS hl hs
 go_enter Tryz.func31, Tryz.ntmps31
 go_wp2_with (refine wpList_allocBlk rfl 44 rfl nameZ zvNameO (nmD 0 ByteArray.empty 0 0 ByteArray.empty) rfl ?_)
 intro w1 n1
 have F1 := Lib.hid n1.fr
 have RB0 := Lib.hid n1.blk
 have HGR : Sz w w.heap.size := Nat.le_refl _
 clear n1
 generalize w.heap.size = gr at *
 obtain ⟨cc, w2, hcv, hf2, hr2⟩ := conv_bytes w1 s
 have F2 := Lib.hid (F1.out.trans hf2)
 have RB2 := Lib.hid (RB0.out.fr hf2 (fun x => x))
 have R2 := Lib.hid hr2
 clear hf2 hr2 RB0 F1
 generalize w1.heap.size = gc at *
 go_wp2_with fail
 refine (NewReader_any _ _ cc l _ _ (by have h := R2.out; rw [HSZ.out.2] at h; exact h) (by have := HSZ.out.1; have := HLL.out; omega)).mono ?_
 rintro e w3 ⟨g, S, rfl, hr3, f3, hg3, hS3⟩
 have R3 := Lib.hid hr3
 have F3 := Lib.hid (F2.out.trans f3)
 have RB3 := Lib.hid (RB2.out.fr f3 (fun x => x))
 have HG3 : Hid (w.heap.size ≤ g ∧ g < w3.heap.size) := ⟨by have := F2.out.size; omega, by obtain ⟨⟨A, n, c, hb, _, _⟩, _, _⟩ := hr3; exact hb.lt⟩
 have HS3 : Hid (∀ k, S k → k < w3.heap.size) := fun k hk => (hS3 k hk).2
 clear hr3 f3 hg3 hS3 hcv R2 RB2 F2
 go_wp2_with fail
 refine (rdNumber_any g S l 0 0 20 _ R3.out).mono ?_
 rintro e w4 ⟨rfl, hst⟩
 rw [show (rStep 0 (pNumber 20) (l, 0, 0)).1 = (k : Int) from congrArg Prod.fst HD0.out]
 have ST0 : Hid (RrStep w3 g S w4 (dst0 l).2.1 (dst0 l).2.2.1 (dst0 l).2.2.2) := hst
 have B1 := Lib.hid (builtNm1 (k : Int))
 have F4 : Hid (Fr Nothing w w4) := F3.out.then_ hst.fr (fun i hi e => by have e' : i = g := e; have := HG3.out; omega)
 have RB4 : Hid (Blk w4 gr 44 (nmD 0 ByteArray.empty 0 0 ByteArray.empty)) := by
  obtain ⟨⟨A, n, c, hb, _, _⟩, _, _⟩ := R3.out
  exact RB3.out.fr hst.fr (fun e => blk_apart RB3.out hb (by decide) e)
 have S34 : Hid (w3.heap.size ≤ w4.heap.size) := hst.fr.size
 clear hst RB3 F3 R3
 go_wp2_with (refine wpList_built rfl 44 _ rfl (nmD (k : Int) ByteArray.empty 0 0 ByteArray.empty) _ (by simp only [List.map_toArray, List.map_cons, List.map_nil]; rfl) B1.out (Held.go ?hb1))
 unfold Held
 go_wp2_with (refine wpList_allocBlk rfl 44 rfl nameZ zvNameO (nmD 0 ByteArray.empty 0 0 ByteArray.empty) rfl ?_)
 intro w5 n5
 have N5 := Lib.hid n5
 clear n5
 generalize hgn : w4.heap.size = gn at *
 have HGN := Lib.hid hgn
 clear hgn
 have NB5 : Hid (Blk w5 gn 44 (nmD 0 ByteArray.empty 0 0 ByteArray.empty)) := by have h := N5.out.blk; rw [HGN.out] at h; exact h
 refine wpList_storeBlk rfl 44 (.tmp 5) _ rfl gn (nmD (k : Int) ByteArray.empty 0 0 ByteArray.empty) rfl rfl _ _ NB5.out infoNm5 rfl (by simp [nmD, Value.oneCell']) ?_
 intro w6 b6 f6
 have R6 : Hid (Rr w6 g S (dst0 l).2.1 (dst0 l).2.2.1 (dst0 l).2.2.2) := (ST0.out.rr.keep0 N5.out.fr).keep f6 (fun e => by have e' : g = gn := e; have := HG3.out; have := S34.out; omega) (fun k hk e => by have e' : k = gn := e; have := HS3.out k hk; have := S34.out; omega)
 have F6 : Hid (Fr Nothing w w6) := (F4.out.trans N5.out.fr).then_ f6 (fun i hi e => by have e' : i = gn := e; have := HGN.out; have := F4.out.size; omega)
 have NE : Hid (gn ≠ gr) := by have := RB4.out.lt; have := HGN.out; simp only [Hid]; omega
 have RB6 : Hid (Blk w6 gr 44 (nmD 0 ByteArray.empty 0 0 ByteArray.empty)) := (RB4.out.fr N5.out.fr (fun x => x)).fr f6 (fun e => NE.out (show gr = gn from e).symm)
 have NB6 := Lib.hid b6
 have AP : Hid (w.heap.size ≤ gn ∧ ¬ S gn) := ⟨by have := F4.out.size; have := HGN.out; omega, fun hk => by have := HS3.out gn hk; have := S34.out; omega⟩
 have HW36 : Hid (w3.heap.size ≤ w6.heap.size) := by have h1 := S34.out; have h2 := N5.out.fr.size; have h3 := f6.size; have h4 := HGN.out; simp only [Hid]; omega
 clear b6 f6 N5 NB5 RB4 F4 HGN ST0 S34
 have c0 : w6.cell? ⟨gn, 0, none⟩ = some (.int .i64 (k : Int)) := NB6.out.cell 0
 go_wp2_with (refine wpList_load_add rfl 112 (.tmp 15) rfl ⟨0, k * 6, none⟩ rfl (usC wd bo bn bi bt mo).toList _ ?hcc2 Tryz.underlying112 rfl infoUsage (Held.go ?hold2))
 case hcc2 => exact fun j x hx => by rw [Addr.add_mid]; exact F6.out.cellSome (UR.out j x hx) (fun x => x)
 unfold Held
 go_wp2_with (refine wpList_allocBlk rfl 112 rfl usaZ zvUsage #[.string ByteArray.empty, .bool false, .bool false, .bool false, .bool false, .int .i64 0] rfl ?_)
 intro w7 n7
 have N7 := Lib.hid n7
 clear n7
 generalize hgu : w6.heap.size = gu at *
 have HGU := Lib.hid hgu
 clear hgu
 have UB7 : Hid (Blk w7 gu 112 #[.string ByteArray.empty, .bool false, .bool false, .bool false, .bool false, .int .i64 0]) := by have h := N7.out.blk; rw [HGU.out] at h; exact h
 refine wpList_storeBlk rfl 112 (.tmp 6) _ rfl gu (usC wd bo bn bi bt mo) rfl rfl _ _ UB7.out infoUsage rfl (Usa.one ⟨wd, bo, bn, bi, bt, mo⟩) ?_
 intro wi b8 f8
 have AA : Hid (Apart w g gn gu gr S) := ⟨HG3.out.1, AP.out.1, NE.out, AP.out.2⟩
 have ST : Hid (RS w wi g gn gu gr S (usC wd bo bn bi bt mo) (nmD (k : Int) ByteArray.empty 0 0 ByteArray.empty) (dst0 l).2) := by
  have q1 := R6.out
  obtain ⟨⟨A, n, c, hb, _, _⟩, _, _⟩ := R6.out
  refine ⟨(q1.keep0 N7.out.fr).keep f8 (fun e => ?_) (fun k hk e => ?_), (NB6.out.fr N7.out.fr (fun x => x)).fr f8 (fun e => ?_), b8, (RB6.out.fr N7.out.fr (fun x => x)).fr f8 (fun e => ?_), (F6.out.trans N7.out.fr).then_ f8 (fun i hi e => ?_)⟩
  ·have e' : g = gu := e
   have := hb.lt
   have := HGU.out
   omega
  ·have e' : k = gu := e
   have := HS3.out k hk
   have := NB6.out.lt
   have := HGU.out
   have := hb.lt
   have := F6.out.size
   have := HW36.out
   omega
  ·have e' : gn = gu := e
   have := NB6.out.lt
   have := HGU.out
   omega
  ·have e' : gr = gu := e
   have := RB6.out.lt
   have := HGU.out
   omega
  ·have e' : i = gu := e
   have := HGU.out
   have := F6.out.size
   omega
 clear b8 f8 N7 UB7 R6 NB6 RB6 F6 HGU c0 AP NE HG3 HS3 UR
 have ub : wi.cell? ⟨gu, 1, none⟩ = some (.bool bo) := ST.out.ub.cell 1
 go_upto_if 18 with fail
 clear ub
 go_cut [5] (fun p5 wx => p5 = .pointer (some ⟨gn, 0, none⟩) ∧ RS w wx g gn gu gr S (usC wd bo bn bi bt mo) (nmD (k : Int) ⟨a1.1.toArray⟩ 0 0 ByteArray.empty) a1.2)
 case first =>
  cases bo
  ·go_wp2
   go_meet
   refine ⟨rfl, ?_⟩
   rw [← HA1.out]
   exact ST.out
  ·go_wp2_with fail
   refine (rText_any g S _ _ _ 16777216 _ ST.out.rr).mono ?_
   rintro e wj ⟨rfl, hst⟩
   have SJ := Lib.hid (ST.out.step AA.out hst)
   clear hst
   go_wp2_with (refine wpList_storeOne rfl 42 (.tmp 21) (.tmp 20) rfl gn 1 (tV (rStep [] (pText 16777216) (dst0 l).2).1) rfl rfl rfl infoLin _ _ (nmD (k : Int) ⟨(rStep [] (pText 16777216) (dst0 l).2).1.toArray⟩ 0 0 ByteArray.empty) SJ.out.nb (by simp [nmD]) rfl ?_)
   intro wk bk fk
   have SK := Lib.hid (SJ.out.put AA.out bk fk)
   clear bk fk SJ
   go_wp2
   go_meet
   refine ⟨rfl, ?_⟩
   rw [← HA1.out]
   exact SK.out
 case rest =>
  obtain ⟨rfl, hns⟩ := hcut
  clear ST
  have ST := Lib.hid hns
  clear hns
  generalize wc = wi at *
  have ub : wi.cell? ⟨gu, 2, none⟩ = some (.bool bn) := ST.out.ub.cell 2
  go_upto_if 23 with fail
  clear ub
  go_cut [5] (fun p5 wx => p5 = .pointer (some ⟨gn, 0, none⟩) ∧ RS w wx g gn gu gr S (usC wd bo bn bi bt mo) (nmD (k : Int) ⟨a1.1.toArray⟩ a2.1 0 ByteArray.empty) a2.2)
  case first =>
   cases bn
   ·go_wp2
    go_meet
    refine ⟨rfl, ?_⟩
    rw [← HA2.out]
    exact ST.out
   ·go_wp2_with fail
    refine (rdNumber_any g S _ _ _ 1073741824 _ ST.out.rr).mono ?_
    rintro e wj ⟨rfl, hst⟩
    have SJ := Lib.hid (ST.out.step AA.out hst)
    clear hst
    go_wp2_with (refine wpList_storeOne rfl 3 (.tmp 26) (.tmp 25) rfl gn 2 (.int .i64 (rStep 0 (pNumber 1073741824) a1.2).1) rfl rfl rfl infoInt1 _ _ (nmD (k : Int) ⟨a1.1.toArray⟩ (rStep 0 (pNumber 1073741824) a1.2).1 0 ByteArray.empty) SJ.out.nb (by simp [nmD]) rfl ?_)
    intro wk bk fk
    have SK := Lib.hid (SJ.out.put AA.out bk fk)
    clear bk fk SJ
    go_wp2
    go_meet
    refine ⟨rfl, ?_⟩
    rw [← HA2.out]
    exact SK.out
  case rest =>
   obtain ⟨rfl, hns⟩ := hcut
   clear ST
   have ST := Lib.hid hns
   clear hns
   generalize wc = wi at *
   have ub : wi.cell? ⟨gu, 3, none⟩ = some (.bool bi) := ST.out.ub.cell 3
   go_upto_if 28 with fail
   clear ub
   go_cut [5] (fun p5 wx => p5 = .pointer (some ⟨gn, 0, none⟩) ∧ RS w wx g gn gu gr S (usC wd bo bn bi bt mo) (nmD (k : Int) ⟨a1.1.toArray⟩ a2.1 a3.1 ByteArray.empty) a3.2)
   case first =>
    cases bi
    ·go_wp2
     go_meet
     refine ⟨rfl, ?_⟩
     rw [← HA3.out]
     exact ST.out
    ·have um : wi.cell? ⟨gu, 5, none⟩ = some (.int .i64 mo) := ST.out.ub.cell 5
     go_wp2_with fail
     refine (rdNumber_any g S _ _ _ mo _ ST.out.rr).mono ?_
     rintro e wj ⟨rfl, hst⟩
     have SJ := Lib.hid (ST.out.step AA.out hst)
     clear hst um
     go_wp2_with (refine wpList_storeOne rfl 3 (.tmp 33) (.tmp 32) rfl gn 3 (.int .i64 (rStep 0 (pNumber mo) a2.2).1) rfl rfl rfl infoInt1 _ _ (nmD (k : Int) ⟨a1.1.toArray⟩ a2.1 (rStep 0 (pNumber mo) a2.2).1 ByteArray.empty) SJ.out.nb (by simp [nmD]) rfl ?_)
     intro wk bk fk
     have SK := Lib.hid (SJ.out.put AA.out bk fk)
     clear bk fk SJ
     go_wp2
     go_meet
     refine ⟨rfl, ?_⟩
     rw [← HA3.out]
     exact SK.out
   case rest =>
    obtain ⟨rfl, hns⟩ := hcut
    clear ST
    have ST := Lib.hid hns
    clear hns
    generalize wc = wi at *
    have ub : wi.cell? ⟨gu, 4, none⟩ = some (.bool bt) := ST.out.ub.cell 4
    go_upto_if 35 with fail
    clear ub
    go_cut [5] (fun p5 wx => p5 = .pointer (some ⟨gn, 0, none⟩) ∧ RS w wx g gn gu gr S (usC wd bo bn bi bt mo) (nmD (k : Int) ⟨a1.1.toArray⟩ a2.1 a3.1 ⟨a4.1.toArray⟩) a4.2)
    case first =>
     cases bt
     ·go_wp2
      go_meet
      refine ⟨rfl, ?_⟩
      rw [← HA4.out]
      exact ST.out
     ·go_wp2_with fail
      refine (rText_any g S _ _ _ 32 _ ST.out.rr).mono ?_
      rintro e wj ⟨rfl, hst⟩
      have SJ := Lib.hid (ST.out.step AA.out hst)
      clear hst
      go_wp2_with (refine wpList_storeOne rfl 9 (.tmp 38) (.tmp 37) rfl gn 4 (tV (rStep [] (pText 32) a3.2).1) rfl rfl rfl infoStr _ _ (nmD (k : Int) ⟨a1.1.toArray⟩ a2.1 a3.1 ⟨(rStep [] (pText 32) a3.2).1.toArray⟩) SJ.out.nb (by simp [nmD]) rfl ?_)
      intro wk bk fk
      have SK := Lib.hid (SJ.out.put AA.out bk fk)
      clear bk fk SJ
      go_wp2
      go_meet
      refine ⟨rfl, ?_⟩
      rw [← HA4.out]
      exact SK.out
    case rest =>
     obtain ⟨rfl, hns⟩ := hcut
     clear ST
     have ST := Lib.hid hns
     clear hns
     generalize wc = wi at *
     have hnm := HNM.out
     have NBC : Hid (Blk wi gn 44 nm.cells.toArray) := by rw [hnm]; exact ST.out.nb
     have ZO : Hid (nm.owner.size ≤ 1099511627776 ∧ nm.text.size ≤ 1099511627776) := by
      have e1 : nm.owner.size = a1.1.length := by rw [hnm, ← strL_length]; rfl
      have e2 : nm.text.size = a4.1.length := by rw [hnm, ← strL_length]; rfl
      have h1 := L1.out
      have h2 := L4.out
      simp only [Hid]
      omega
     have B0 := Lib.hid builtNm0
     obtain ⟨ce, hce⟩ : ∃ ce, closeN a4.2 = ce := ⟨_, rfl⟩
     have CC : Hid (∀ wk, Fr Nothing wi wk → Calls Tryz.prog 33 #[.pointer (some ⟨g, 0, none⟩)] wk (Same' wk (.int .i64 ce))) := fun wk hf => by
      have h := rClose_any g S a4.2.1 a4.2.2.1 a4.2.2.2 wk (ST.out.rr.keep0 hf)
      rw [← hce]
      exact h.mono (fun e w' ⟨h1, h2⟩ => ⟨h1, by rw [h2]; exact Fr.refl _ _⟩)
     have HCE := Lib.hid hce
     clear hce hnm L1 L4 HLL HSZ HD0 HA1 HA2 HA3 HA4
     by_cases hz : ce = 0
     ·subst hz
      cases hok : okNm nm
      ·have HOK := Lib.hid hok
       have CQ : Hid (∀ w', Fr Nothing wi w' → Calls Tryz.prog 44 #[.agg nm.cells.toArray] w' (fun e w'' => ∃ q : Int, e = .returned (.int .i64 q) ∧ q ≠ 0 ∧ Fr Nothing w' w'')) := fun w' f => (CH.out nm ZO.out.1 ZO.out.2 w' (ST.out.fr.trans f)).mono (fun e w'' ⟨q, he, hq, hf⟩ => ⟨q, he, fun h0 => by rw [h0, hok] at hq; exact absurd hq (by decide), hf⟩)
       clear hok
       go_upto_region 12 with fail
       refine wp_region_sq 8 Nothing [Is (.pointer (some ⟨g, 0, none⟩)), Is (.int .i64 0), Is (.bool false), Is (.bool false), Is (.agg nm.cells.toArray), (fun zv _ => ∃ q : Int, zv = .int .i64 q ∧ q ≠ 0), Is (.bool true), Is (.bool true)] [] (fun _ => True) (fun _ _ => false) (by kernel_rfl) (by kernel_rfl) (by kernel_rfl) ⟨Is.stable _, Is.stable _, Is.stable _, Is.stable _, Is.stable _, fun _ _ _ _ _ h => h, Is.stable _, Is.stable _, trivial⟩ trivial (fun _ _ _ _ h => h) trivial ?_ ?_
       ·refine ⟨?a12_0, ?a12_1, ?a12_2, ?a12_3, ?a12_4, ?a12_5, ?a12_6, ?a12_7, trivial⟩
        all_goals intro u w' d hf hR k1 k0 kM
        all_goals simp only [List.take_succ_cons, List.take_zero, List.map_cons, List.map_nil, puts, Act.put, List.setIfInBounds_toArray, List.set_cons_zero, List.set_cons_succ, Nat.reduceAdd, Nat.zero_add]
        case a12_1 =>
         simp only [show u 0 = _ from hR 0 (by kernel_rfl)]
         clear hR k1 k0 kM
         refine .inl ⟨by kernel_rfl, ?_⟩
         go_simp
         refine (CC.out _ hf).mono ?_
         rintro e w4 ⟨rfl, f4⟩
         exact ⟨_, rfl, f4.weak, rfl, trivial⟩
        case' a12_2 => simp only [show u 1 = _ from hR 1 (by kernel_rfl)]
        case' a12_3 => simp only [show u 2 = _ from hR 2 (by kernel_rfl)]
        case a12_4 =>
         simp only [show u 3 = _ from hR 3 (by kernel_rfl)]
         clear hR k1 k0 kM
         refine .inl ⟨by kernel_rfl, ?_⟩
         exact wp_load_add _ _ rfl ⟨gn, 0, none⟩ rfl nm.cells _ (fun j x hx => by rw [Addr.add_mid, Nat.zero_add]; exact (NBC.out.fr hf (fun x => x)).cell j |>.trans (by rw [List.getElem?_toArray]; exact hx)) Tryz.underlying44 rfl infoName ⟨_, rfl, Fr.refl _ _, rfl, trivial⟩
        case a12_5 =>
         simp only [show u 4 = _ from hR 4 (by kernel_rfl), show u 3 = _ from hR 3 (by kernel_rfl)]
         clear hR k1 k0 kM
         refine .inl ⟨by kernel_rfl, ?_⟩
         go_simp
         refine (CQ.out _ hf).mono ?_
         rintro e w4 ⟨q, rfl, hq, f4⟩
         exact ⟨_, rfl, f4.weak, ⟨q, rfl, hq⟩, trivial⟩
        case a12_6 =>
         obtain ⟨q, e5, hq5⟩ := hR 5 (by kernel_rfl)
         simp only [e5, show u 3 = _ from hR 3 (by kernel_rfl)]
         clear hR k1 k0 kM
         refine .inl ⟨by kernel_rfl, ?_⟩
         go_simp
         have t0 : (q != 0) = true := by rw [bne_iff_ne]; exact hq5
         simp only [t0]
         exact ⟨_, rfl, Fr.refl _ _, rfl, trivial⟩
        case' a12_7 => simp only [show u 3 = _ from hR 3 (by kernel_rfl), show u 6 = _ from hR 6 (by kernel_rfl)]
        all_goals
         clear hR k1 k0 kM
         refine .inl ⟨by kernel_rfl, ?_⟩
         go_simp
         exact ⟨_, rfl, Fr.refl _ _, rfl, trivial⟩
       ·intro u w' hf hR kM
        have kz : u 7 = _ := hR 7 (by omega)
        clear hR kM
        simp only [List.take_succ_cons, List.take_zero, List.map_cons, List.map_nil, puts, Act.put, List.setIfInBounds_toArray, List.set_cons_zero, List.set_cons_succ, List.drop_succ_cons, List.drop_zero, Nat.reduceAdd, Nat.zero_add, kz]
        have HF := Lib.hid hf
        clear hf kz
        have RBQ := Lib.hid (ST.out.rb.fr HF.out (fun x => x))
        go_wp2_with (refine wpList_storeBlk rfl 44 (.tmp 2) _ rfl gr (nmD 0 ByteArray.empty 0 0 ByteArray.empty) rfl rfl _ _ RBQ.out infoNm5 rfl (by simp [nmD, Value.oneCell']) ?_)
        intro wz bz fz
        have JZ := Lib.hid bz
        have JF : Hid (Fr Nothing w wz) := (ST.out.fr.trans HF.out).then_ fz (fun i hi e => by have e' : i = gr := e; have := HGR; unfold Sz at this; omega)
        clear bz fz
        go_wp2
        exact bodyPost_ret (results_cell_slotN (fn := Tryz.f31) (p := 2) (q := 3) (ty := 44) Tryz.results31 _ wz _ 44 (nmD 0 ByteArray.empty 0 0 ByteArray.empty) (0, 0) _ rfl JZ.out Tryz.underlying44 rfl infoNm5 _ rfl) rfl ⟨_, _, rfl, JF.out, .inr ⟨fun h => Bool.false_ne_true (HOK.out.symm.trans h.2), rfl, rfl⟩⟩
      ·have HOK := Lib.hid hok
       have CQ : Hid (∀ w', Fr Nothing wi w' → Calls Tryz.prog 44 #[.agg nm.cells.toArray] w' (Same' w' (.int .i64 0))) := fun w' f => (CH.out nm ZO.out.1 ZO.out.2 w' (ST.out.fr.trans f)).mono (fun e w'' ⟨q, he, hq, hf⟩ => by
        have h0 : q = 0 := by rw [hok] at hq; exact beq_iff_eq.1 hq
        subst h0
        exact ⟨he, hf⟩)
       clear hok
       go_upto_region 12 with fail
       refine wp_region_sq 8 Nothing [Is (.pointer (some ⟨g, 0, none⟩)), Is (.int .i64 0), Is (.bool false), Is (.bool false), Is (.agg nm.cells.toArray), Is (.int .i64 0), Is (.bool false), Is (.bool false)] [] (fun _ => True) (fun _ _ => false) (by kernel_rfl) (by kernel_rfl) (by kernel_rfl) ⟨Is.stable _, Is.stable _, Is.stable _, Is.stable _, Is.stable _, Is.stable _, Is.stable _, Is.stable _, trivial⟩ trivial (fun _ _ _ _ h => h) trivial ?_ ?_
       ·refine ⟨?a13_0, ?a13_1, ?a13_2, ?a13_3, ?a13_4, ?a13_5, ?a13_6, ?a13_7, trivial⟩
        all_goals intro u w' d hf hR k1 k0 kM
        all_goals simp only [List.take_succ_cons, List.take_zero, List.map_cons, List.map_nil, puts, Act.put, List.setIfInBounds_toArray, List.set_cons_zero, List.set_cons_succ, Nat.reduceAdd, Nat.zero_add]
        case a13_1 =>
         simp only [show u 0 = _ from hR 0 (by kernel_rfl)]
         clear hR k1 k0 kM
         refine .inl ⟨by kernel_rfl, ?_⟩
         go_simp
         refine (CC.out _ hf).mono ?_
         rintro e w4 ⟨rfl, f4⟩
         exact ⟨_, rfl, f4.weak, rfl, trivial⟩
        case' a13_2 => simp only [show u 1 = _ from hR 1 (by kernel_rfl)]
        case' a13_3 => simp only [show u 2 = _ from hR 2 (by kernel_rfl)]
        case a13_4 =>
         simp only [show u 3 = _ from hR 3 (by kernel_rfl)]
         clear hR k1 k0 kM
         refine .inl ⟨by kernel_rfl, ?_⟩
         exact wp_load_add _ _ rfl ⟨gn, 0, none⟩ rfl nm.cells _ (fun j x hx => by rw [Addr.add_mid, Nat.zero_add]; exact (NBC.out.fr hf (fun x => x)).cell j |>.trans (by rw [List.getElem?_toArray]; exact hx)) Tryz.underlying44 rfl infoName ⟨_, rfl, Fr.refl _ _, rfl, trivial⟩
        case a13_5 =>
         simp only [show u 4 = _ from hR 4 (by kernel_rfl), show u 3 = _ from hR 3 (by kernel_rfl)]
         clear hR k1 k0 kM
         refine .inl ⟨by kernel_rfl, ?_⟩
         go_simp
         refine (CQ.out _ hf).mono ?_
         rintro e w4 ⟨rfl, f4⟩
         exact ⟨_, rfl, f4.weak, rfl, trivial⟩
        case' a13_6 => simp only [show u 5 = _ from hR 5 (by kernel_rfl), show u 3 = _ from hR 3 (by kernel_rfl)]
        case' a13_7 => simp only [show u 3 = _ from hR 3 (by kernel_rfl), show u 6 = _ from hR 6 (by kernel_rfl)]
        all_goals
         clear hR k1 k0 kM
         refine .inl ⟨by kernel_rfl, ?_⟩
         go_simp
         exact ⟨_, rfl, Fr.refl _ _, rfl, trivial⟩
       ·intro u w' hf hR kM
        have kz : u 7 = _ := hR 7 (by omega)
        clear hR kM
        simp only [List.take_succ_cons, List.take_zero, List.map_cons, List.map_nil, puts, Act.put, List.setIfInBounds_toArray, List.set_cons_zero, List.set_cons_succ, List.drop_succ_cons, List.drop_zero, Nat.reduceAdd, Nat.zero_add, kz]
        have HF := Lib.hid hf
        clear hf kz
        have NBQ := Lib.hid (NBC.out.fr HF.out (fun x => x))
        have RBQ := Lib.hid (ST.out.rb.fr HF.out (fun x => x))
        go_wp2_with (refine wpList_load_add rfl 44 (.tmp 5) rfl ⟨gn, 0, none⟩ rfl nm.cells _ ?hcc6 Tryz.underlying44 rfl infoName (Held.go ?hold6))
        case hcc6 => exact fun j x hx => by rw [Addr.add_mid, Nat.zero_add]; exact NBQ.out.cell j |>.trans (by rw [List.getElem?_toArray]; exact hx)
        unfold Held
        refine wpList_storeBlk rfl 44 (.tmp 2) _ rfl gr nm.cells.toArray rfl rfl _ _ RBQ.out infoNm5 rfl nm.one ?_
        intro wz bz fz
        have JZ := Lib.hid bz
        have JF : Hid (Fr Nothing w wz) := (ST.out.fr.trans HF.out).then_ fz (fun i hi e => by have e' : i = gr := e; have := HGR; unfold Sz at this; omega)
        clear bz fz
        go_wp2
        exact bodyPost_ret (results_cell_slotN (fn := Tryz.f31) (p := 2) (q := 3) (ty := 44) Tryz.results31 _ wz _ 44 nm.cells.toArray (0, 0) _ rfl JZ.out Tryz.underlying44 rfl infoNm5 _ rfl) rfl ⟨_, _, rfl, JF.out, .inl ⟨HCE.out, HOK.out, rfl, rfl⟩⟩
     ·have t0 : (ce != 0) = true := by rw [bne_iff_ne]; exact hz
      go_upto_region 12 with fail
      refine wp_region_sq 8 Nothing [Is (.pointer (some ⟨g, 0, none⟩)), Is (.int .i64 ce), Is (.bool true), Is (.bool true), Is (undef), Is (undef), Is (undef), Is (.bool true)] [] (fun _ => True) (fun _ _ => false) (by kernel_rfl) (by kernel_rfl) (by kernel_rfl) ⟨Is.stable _, Is.stable _, Is.stable _, Is.stable _, Is.stable _, Is.stable _, Is.stable _, Is.stable _, trivial⟩ trivial (fun _ _ _ _ h => h) trivial ?_ ?_
      ·refine ⟨?a11_0, ?a11_1, ?a11_2, ?a11_3, ?a11_4, ?a11_5, ?a11_6, ?a11_7, trivial⟩
       all_goals intro u w' d hf hR k1 k0 kM
       all_goals simp only [List.take_succ_cons, List.take_zero, List.map_cons, List.map_nil, puts, Act.put, List.setIfInBounds_toArray, List.set_cons_zero, List.set_cons_succ, Nat.reduceAdd, Nat.zero_add]
       case a11_1 =>
        simp only [show u 0 = _ from hR 0 (by kernel_rfl)]
        clear hR k1 k0 kM
        refine .inl ⟨by kernel_rfl, ?_⟩
        go_simp
        refine (CC.out _ hf).mono ?_
        rintro e w4 ⟨rfl, f4⟩
        exact ⟨_, rfl, f4.weak, rfl, trivial⟩
       case' a11_2 => simp only [show u 1 = _ from hR 1 (by kernel_rfl)]
       case' a11_3 => simp only [show u 2 = _ from hR 2 (by kernel_rfl)]
       case a11_4 => simp only [show u 3 = _ from hR 3 (by kernel_rfl)]; exact .inr ⟨by kernel_rfl, _, rfl, Fr.refl _ _, rfl, trivial⟩
       case a11_5 => simp only [show u 3 = _ from hR 3 (by kernel_rfl)]; exact .inr ⟨by kernel_rfl, _, rfl, Fr.refl _ _, rfl, trivial⟩
       case a11_6 => simp only [show u 3 = _ from hR 3 (by kernel_rfl)]; exact .inr ⟨by kernel_rfl, _, rfl, Fr.refl _ _, rfl, trivial⟩
       case' a11_7 => simp only [show u 3 = _ from hR 3 (by kernel_rfl), show u 6 = _ from hR 6 (by kernel_rfl)]
       all_goals
        clear hR k1 k0 kM
        refine .inl ⟨by kernel_rfl, ?_⟩
        go_simp
        exact ⟨_, rfl, Fr.refl _ _, rfl, trivial⟩
      ·intro u w' hf hR kM
       have kz : u 7 = _ := hR 7 (by omega)
       clear hR kM
       simp only [List.take_succ_cons, List.take_zero, List.map_cons, List.map_nil, puts, Act.put, List.setIfInBounds_toArray, List.set_cons_zero, List.set_cons_succ, List.drop_succ_cons, List.drop_zero, Nat.reduceAdd, Nat.zero_add, kz]
       have HF := Lib.hid hf
       clear hf kz
       have RBQ := Lib.hid (ST.out.rb.fr HF.out (fun x => x))
       go_wp2_with (refine wpList_storeBlk rfl 44 (.tmp 2) _ rfl gr (nmD 0 ByteArray.empty 0 0 ByteArray.empty) rfl rfl _ _ RBQ.out infoNm5 rfl (by simp [nmD, Value.oneCell']) ?_)
       intro wz bz fz
       have JZ := Lib.hid bz
       have JF : Hid (Fr Nothing w wz) := (ST.out.fr.trans HF.out).then_ fz (fun i hi e => by have e' : i = gr := e; have := HGR; unfold Sz at this; omega)
       clear bz fz
       go_wp2
       exact bodyPost_ret (results_cell_slotN (fn := Tryz.f31) (p := 2) (q := 3) (ty := 44) Tryz.results31 _ wz _ 44 (nmD 0 ByteArray.empty 0 0 ByteArray.empty) (0, 0) _ rfl JZ.out Tryz.underlying44 rfl infoNm5 _ rfl) rfl ⟨_, _, rfl, JF.out, .inr ⟨fun h => hz (HCE.out.symm.trans h.1), rfl, rfl⟩⟩
end Go.Proofs.YtpnchdgplpdefaaGreatDoor
