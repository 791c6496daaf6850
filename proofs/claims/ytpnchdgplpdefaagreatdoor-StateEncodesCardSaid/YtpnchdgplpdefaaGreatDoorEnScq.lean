/- State: one change done to both (written by genSbL.py). -/
import Derived.Test.YtpnchdgplpdefaaGreatDoorEnSbF
import Derived.Test.YtpnchdgplpdefaaGreatDoorEnGwE
import Derived.Test.YtpnchdgplpdefaaGreatDoorEnSbJ
namespace Go.Proofs.YtpnchdgplpdefaaGreatDoor
open Go.RowKit Go.Shelf
theorem own_of_idx {bi : Bool} {mo : Int} (h : 0 ≤ mo) : decide ((0 : Int) ≤ (if bi = true then mo else -1)) = bi := by
 cases bi
 ·rfl
 ·exact decide_eq_true h
structure RE (w W : World) (gb : Nat) (nm : Array Value) (v : Value) (l : List UInt8) : Prop where
 grew : GrewB w (.slice none 0 0) W v l
 nb : Blk W gb 57 nm
def RES (w W : World) (gb : Nat) (nm : Array Value) (l : List UInt8) (v : Value) : Prop := RE w W gb nm v l
theorem RE.next {w W W1 W2 : World} {gb : Nat} {nm : Array Value} {v v2 : Value} {l r : List UInt8} (h : RE w W gb nm v l) (hf : Fr Nothing W W1) (k : Grew 5 1 W1 v W2 v2 (l.length + r.length) (l.map bv ++ r.map bv)) : RE w W2 gb nm v2 (l ++ r) := by
 refine ⟨GrewB.app (h.grew.behind hf) k rfl, (h.nb.fr hf (fun x => x)).fr k.fr (fun e => ?_)⟩
 exact own_blk_ne (own_fr h.grew.own hf (fun _ _ x => x)) (h.nb.fr hf (fun x => x)) (by decide) e
def REnc (w : World) (n : NameV) (e : Ending) (w' : World) : Prop := ∃ s q, e = .returned (.tuple #[.string s, .int .i64 q]) ∧ Fr Nothing w w' ∧ ((okNm n = true ∧ q = 0 ∧ s = ⟨(nameL n).toArray⟩) ∨ (okNm n = false ∧ q ≠ 0))
set_option maxRecDepth 100000 in
set_option maxHeartbeats 4000000 in
theorem rNEnc_all (k : Nat) (ow : ByteArray) (nu ix : Int) (tx wd : ByteArray) (bo bn bi bt : Bool) (mo : Int) (w : World) (hk : 1 ≤ k ∧ k ≤ 20) (hu : usaL[k]? = some ⟨wd, bo, bn, bi, bt, mo⟩) (ho : ow.size ≤ 16777216) (ht : tx.size ≤ 16777216) (hok : okNm ⟨(k : Int), ow, nu, ix, tx⟩ = true) :
  Calls Tryz.prog 35 #[.agg #[.int .i64 (k : Int), .string ow, .int .i64 nu, .int .i64 ix, .string tx]] w (Same' w (.tuple #[.string ⟨(nameU ⟨wd, bo, bn, bi, bt, mo⟩ ⟨(k : Int), ow, nu, ix, tx⟩).toArray⟩, .int .i64 0])) := by
 obtain ⟨i0, hi, hz0, hz1, hz2⟩ := info_parts info_u8
 have hp : UsParts ⟨wd, bo, bn, bi, bt, mo⟩ ⟨(k : Int), ow, nu, ix, tx⟩ := by
  obtain ⟨_, u, h1, h2⟩ := okNm_us hok
  simp only [Int.toNat_natCast] at h1
  rw [hu] at h1
  cases h1
  exact okUs_parts h2
 have hmo := most_le hu
 simp only at hmo
 have HNU : Hid (bn = true → nu = (nu.toNat : Int) ∧ nu.toNat ≤ 1073741824) := fun h => by
  have := hp.n1 h
  simp only at this
  omega
 have HIX : Hid (bi = true → ix = (ix.toNat : Int) ∧ ix.toNat ≤ 1073741824) := fun h => by
  have := hp.i1 h
  simp only at this
  omega
 have m0 : 0 ≤ mo := by
  have hm : ∀ x ∈ usaL, 0 ≤ x.most := by decide
  exact hm _ (List.mem_of_getElem? hu)
 have HLL : Hid (enc k ++ (if bo then textB (strL ow) else []) ++ (if bn then enc nu.toNat else []) ++ (if bi then enc ix.toNat else []) ++ (if bt then textB (strL tx) else []) = nameU ⟨wd, bo, bn, bi, bt, mo⟩ ⟨(k : Int), ow, nu, ix, tx⟩) := by
  simp [Hid, nameU]
 have CH : Hid (∀ w', Calls Tryz.prog 65 #[.agg #[.int .i64 (k : Int), .string ow, .int .i64 nu, .int .i64 ix, .string tx]] w' (Checked w' ⟨(k : Int), ow, nu, ix, tx⟩)) := fun w' => rCheck_any ⟨(k : Int), ow, nu, ix, tx⟩ w' (by simp only; omega) (by simp only; omega)
 have CO : Hid (∀ w', Calls Tryz.prog 66 #[.int .i64 (k : Int)] w' (SameW w' (.bool bo))) := fun w' => rOwned_any k _ w' hk hu
 have CN : Hid (∀ w', Calls Tryz.prog 67 #[.int .i64 (k : Int)] w' (SameW w' (.bool bn))) := fun w' => rNumbered_any k _ w' hk hu
 have CM : Hid (∀ w', Calls Tryz.prog 68 #[.int .i64 (k : Int)] w' (SameW w' (.int .i64 (if bi = true then mo else -1)))) := fun w' => rMost_any k _ w' hk hu
 have CT : Hid (∀ w', Calls Tryz.prog 69 #[.int .i64 (k : Int)] w' (SameW w' (.bool bt))) := fun w' => rTexted_any k _ w' hk hu
 have HLN : Hid ((nameU ⟨wd, bo, bn, bi, bt, mo⟩ ⟨(k : Int), ow, nu, ix, tx⟩).length ≤ 50 + ow.size + tx.size) := nameU_length _ _
 have HOK := Lib.hid hok
 have HSZ : Hid (ow.size ≤ 16777216 ∧ tx.size ≤ 16777216) := ⟨ho, ht⟩
 have hmd : decide ((0 : Int) ≤ (if bi = true then mo else -1)) = bi := own_of_idx m0
 obtain ⟨mv, hmv⟩ : ∃ mv : Int, mv = (if bi = true then mo else -1) := ⟨_, rfl⟩
 rw [← hmv] at hmd CM
 have k1 : k ≤ 20 := hk.2
 clear hu hok hp hmo ho ht hmv m0
 obtain ⟨L1, hL1⟩ : ∃ L, enc k ++ (if bo then textB (strL ow) else []) = L := ⟨_, rfl⟩
 obtain ⟨L2, hL2⟩ : ∃ L, L1 ++ (if bn then enc nu.toNat else []) = L := ⟨_, rfl⟩
 obtain ⟨L3, hL3⟩ : ∃ L, L2 ++ (if bi then enc ix.toNat else []) = L := ⟨_, rfl⟩
 obtain ⟨L4, hL4⟩ : ∃ L, L3 ++ (if bt then textB (strL tx) else []) = L := ⟨_, rfl⟩
 rw [hL1, hL2, hL3, hL4] at HLL
 rw [← HLL.out] at HLN
 rw [← HLL.out]
 have HL1 := Lib.hid hL1
 have HL2 := Lib.hid hL2
 have HL3 := Lib.hid hL3
 have HL4 := Lib.hid hL4
 have HLS : Hid (L1.length ≤ 100000000 ∧ L2.length ≤ 100000000 ∧ L3.length ≤ 100000000 ∧ L4.length ≤ 100000000) := by
  have h1 := HLN.out
  have h2 := HSZ.out
  rw [← hL4, ← hL3, ← hL2] at h1
  simp only [List.length_append] at h1
  simp only [Hid]
  rw [← hL4, ← hL3, ← hL2]
  simp only [List.length_append]
  omega
 have wk : IntKind.u64.wrap (k : Int) = (k : Int) := IntWalk.u64_in _ (by omega)
 clear hL1 hL2 hL3 hL4 HLL HLN
 go_enter Tryz.func35, Tryz.ntmps35
 go_wp2_with (refine wpList_boxBlk rfl 57 (.tmp 0) rfl (nmC k ow nu ix tx) rfl ?_)
 intro w1 n1
 have F1 := Lib.hid n1.fr
 have NB0 := Lib.hid n1.blk
 clear n1
 generalize w.heap.size = gb at *
 have NB1 : Hid (Blk w1 gb 57 (nmC k ow nu ix tx)) := NB0.out
 clear NB0
 go_wp2_with (refine wpList_load_add rfl 57 (.tmp 1) rfl ⟨gb, 0, none⟩ rfl (NameV.cells ⟨(k : Int), ow, nu, ix, tx⟩) _ ?hcc1 Tryz.underlying57 rfl infoN (Held.go ?hold1))
 case hcc1 => exact fun j x hx => by rw [Addr.add_mid, Nat.zero_add]; exact NB1.out.cell j |>.trans (by rw [← List.getElem?_toArray] at hx; exact hx)
 unfold Held
 go_wp2_with fail
 refine (CH.out _).mono ?_
 rintro e w2 ⟨q, rfl, hq, f2⟩
 obtain rfl : q = 0 := by
  rw [HOK.out] at hq
  exact beq_iff_eq.1 hq
 have F2 := Lib.hid (F1.out.trans f2)
 have NB2 := Lib.hid (NB1.out.fr f2 (fun x => x))
 clear hq f2 CH HOK NB1 F1
 have c0 : w2.cell? ⟨gb, 0, none⟩ = some (.int .i64 (k : Int)) := NB2.out.cell 0
 go_wp2_with fail
 refine (Natural_any k _ (by omega)).mono ?_
 rintro e wi ⟨v0, rfl, hg⟩
 have ST : Hid (RE w2 wi gb (nmC k ow nu ix tx) v0 (enc k)) := ⟨hg, NB2.out.fr hg.fr0 (fun x => x)⟩
 have FG : Hid (Fr Nothing w w2) := F2.out
 clear hg c0 NB2 F2 wk
 generalize v0 = vo at *
 have c1 : wi.cell? ⟨gb, 0, none⟩ = some (.int .i64 (k : Int)) := ST.out.nb.cell 0
 go_wp2_with fail
 refine (CO.out _).mono ?_
 rintro e wj ⟨rfl, rfl⟩
 go_upto_if 17 with fail
 clear c1
 go_cut [5] (fun p5 wx => RES w2 wx gb (nmC k ow nu ix tx) L1 p5)
 case first =>
  cases bo
  ·go_wp2
   go_meet
   have h := ST.out
   unfold RES
   rw [← HL1.out]
   simpa using h
  ·have cf : wi.cell? ⟨gb, 1, none⟩ = some (.string ow) := ST.out.nb.cell 1
   go_wp2_with fail
   refine (refText_any ow _ (by have := HSZ.out; omega)).mono ?_
   rintro e wt ⟨vt, rfl, hgt⟩
   obtain ⟨A2, n2, cx, rfl, H2, _⟩ := own_slice hgt.own
   have HGT := Lib.hid hgt
   have HTL : Hid ((textL ow).length ≤ 16777300) := by
    have h1 := enc_length ow.size
    have h2 := strL_length ow
    have h3 := HSZ.out
    simp only [Hid, textL, List.length_append]
    omega
   obtain rfl := H2.out
   clear hgt H2
   go_wp2_with (at_builtin; refine wpList_app _ rfl _ _ 28 rfl 5 i0 _ 1 1 Tryz.underlying28 hi hz0 hz1 hz2 rfl (by omega) _ _ _ rfl (own_fr ST.out.grew.own HGT.out.fr0 (fun _ _ x => x)) _ A2 _ cx _ rfl (OwnB.rd HGT.out.own rfl) (oneCell_bv _) ?hb1 (by omega) ?_)
   case hb1 => have h1 : (enc k).length ≤ 100000000 := (by have := enc_length k; omega); have := HTL.out; omega
   intro v3 w3 hg3
   have HN := Lib.hid (ST.out.next HGT.out.fr0 hg3)
   clear hg3 cf
   go_wp2
   go_meet
   have h := HN.out
   unfold RES
   rw [← HL1.out]
   simpa [textB, textL, strL_length] using h
 case rest =>
  clear ST
  have ST : Hid (RE w2 wc gb (nmC k ow nu ix tx) u5 L1) := hcut
  clear hcut
  generalize wc = wi at *
  have c2 : wi.cell? ⟨gb, 0, none⟩ = some (.int .i64 (k : Int)) := ST.out.nb.cell 0
  go_wp2_with fail
  refine (CN.out _).mono ?_
  rintro e wj ⟨rfl, rfl⟩
  go_upto_if 25 with fail
  clear c2
  go_cut [5] (fun p5 wx => RES w2 wx gb (nmC k ow nu ix tx) L2 p5)
  case first =>
   cases bn
   ·go_wp2
    go_meet
    have h := ST.out
    unfold RES
    rw [← HL2.out]
    simpa using h
   ·have cf : wi.cell? ⟨gb, 2, none⟩ = some (.int .i64 nu) := ST.out.nb.cell 2
    have hnn := HNU.out (by first | rfl | trivial)
    obtain ⟨q, hq⟩ : ∃ q : Nat, nu.toNat = q := ⟨_, rfl⟩
    have wn : IntKind.u64.wrap nu = (q : Int) := by rw [← hq]; exact (IntWalk.u64_in _ (by omega)).trans hnn.1
    have hqb : q ≤ 1073741824 := by rw [← hq]; exact hnn.2
    have HQ := Lib.hid hq
    clear hnn hq
    go_wp2_with fail
    refine (Natural_any q _ (by omega)).mono ?_
    rintro e wt ⟨vt, rfl, hgt⟩
    obtain ⟨A2, n2, cx, rfl, H2, _⟩ := own_slice hgt.own
    have HGT := Lib.hid hgt
    have HTL : Hid ((enc q).length ≤ 16777300) := by
     have h1 := enc_length q
     simp only [Hid]
     omega
    obtain rfl := H2.out
    clear hgt H2 wn
    go_wp2_with (at_builtin; refine wpList_app _ rfl _ _ 28 rfl 5 i0 _ 1 1 Tryz.underlying28 hi hz0 hz1 hz2 rfl (by omega) _ _ _ rfl (own_fr ST.out.grew.own HGT.out.fr0 (fun _ _ x => x)) _ A2 _ cx _ rfl (OwnB.rd HGT.out.own rfl) (oneCell_bv _) ?hb2 (by omega) ?_)
    case hb2 => have h1 : (L1).length ≤ 100000000 := (by have := HLS.out; omega); have := HTL.out; omega
    intro v3 w3 hg3
    have HN := Lib.hid (ST.out.next HGT.out.fr0 hg3)
    clear hg3 cf
    go_wp2
    go_meet
    have h := HN.out
    unfold RES
    rw [← HL2.out, HQ.out]
    simpa [textB, textL, strL_length] using h
  case rest =>
   clear ST
   have ST : Hid (RE w2 wc gb (nmC k ow nu ix tx) u5 L2) := hcut
   clear hcut
   generalize wc = wi at *
   have c3 : wi.cell? ⟨gb, 0, none⟩ = some (.int .i64 (k : Int)) := ST.out.nb.cell 0
   go_wp2_with fail
   refine (CM.out _).mono ?_
   rintro e wj ⟨rfl, rfl⟩
   go_upto_if 35 with fail
   clear c3
   go_cut [5] (fun p5 wx => RES w2 wx gb (nmC k ow nu ix tx) L3 p5)
   case first =>
    cases bi
    ·go_wp2
     go_meet
     have h := ST.out
     unfold RES
     rw [← HL3.out]
     simpa using h
    ·have cf : wi.cell? ⟨gb, 3, none⟩ = some (.int .i64 ix) := ST.out.nb.cell 3
     have hnn := HIX.out (by first | rfl | trivial)
     obtain ⟨q, hq⟩ : ∃ q : Nat, ix.toNat = q := ⟨_, rfl⟩
     have wn : IntKind.u64.wrap ix = (q : Int) := by rw [← hq]; exact (IntWalk.u64_in _ (by omega)).trans hnn.1
     have hqb : q ≤ 1073741824 := by rw [← hq]; exact hnn.2
     have HQ := Lib.hid hq
     clear hnn hq
     go_wp2_with fail
     refine (Natural_any q _ (by omega)).mono ?_
     rintro e wt ⟨vt, rfl, hgt⟩
     obtain ⟨A2, n2, cx, rfl, H2, _⟩ := own_slice hgt.own
     have HGT := Lib.hid hgt
     have HTL : Hid ((enc q).length ≤ 16777300) := by
      have h1 := enc_length q
      simp only [Hid]
      omega
     obtain rfl := H2.out
     clear hgt H2 wn
     go_wp2_with (at_builtin; refine wpList_app _ rfl _ _ 28 rfl 5 i0 _ 1 1 Tryz.underlying28 hi hz0 hz1 hz2 rfl (by omega) _ _ _ rfl (own_fr ST.out.grew.own HGT.out.fr0 (fun _ _ x => x)) _ A2 _ cx _ rfl (OwnB.rd HGT.out.own rfl) (oneCell_bv _) ?hb3 (by omega) ?_)
     case hb3 => have h1 : (L2).length ≤ 100000000 := (by have := HLS.out; omega); have := HTL.out; omega
     intro v3 w3 hg3
     have HN := Lib.hid (ST.out.next HGT.out.fr0 hg3)
     clear hg3 cf
     go_wp2
     go_meet
     have h := HN.out
     unfold RES
     rw [← HL3.out, HQ.out]
     simpa [textB, textL, strL_length] using h
   case rest =>
    clear ST
    have ST : Hid (RE w2 wc gb (nmC k ow nu ix tx) u5 L3) := hcut
    clear hcut
    generalize wc = wi at *
    have c4 : wi.cell? ⟨gb, 0, none⟩ = some (.int .i64 (k : Int)) := ST.out.nb.cell 0
    go_wp2_with fail
    refine (CT.out _).mono ?_
    rintro e wj ⟨rfl, rfl⟩
    go_upto_if 44 with fail
    clear c4
    go_cut [5] (fun p5 wx => RES w2 wx gb (nmC k ow nu ix tx) L4 p5)
    case first =>
     cases bt
     ·go_wp2
      go_meet
      have h := ST.out
      unfold RES
      rw [← HL4.out]
      simpa using h
     ·have cf : wi.cell? ⟨gb, 4, none⟩ = some (.string tx) := ST.out.nb.cell 4
      go_wp2_with fail
      refine (refText_any tx _ (by have := HSZ.out; omega)).mono ?_
      rintro e wt ⟨vt, rfl, hgt⟩
      obtain ⟨A2, n2, cx, rfl, H2, _⟩ := own_slice hgt.own
      have HGT := Lib.hid hgt
      have HTL : Hid ((textL tx).length ≤ 16777300) := by
       have h1 := enc_length tx.size
       have h2 := strL_length tx
       have h3 := HSZ.out
       simp only [Hid, textL, List.length_append]
       omega
      obtain rfl := H2.out
      clear hgt H2
      go_wp2_with (at_builtin; refine wpList_app _ rfl _ _ 28 rfl 5 i0 _ 1 1 Tryz.underlying28 hi hz0 hz1 hz2 rfl (by omega) _ _ _ rfl (own_fr ST.out.grew.own HGT.out.fr0 (fun _ _ x => x)) _ A2 _ cx _ rfl (OwnB.rd HGT.out.own rfl) (oneCell_bv _) ?hb4 (by omega) ?_)
      case hb4 => have h1 : (L3).length ≤ 100000000 := (by have := HLS.out; omega); have := HTL.out; omega
      intro v3 w3 hg3
      have HN := Lib.hid (ST.out.next HGT.out.fr0 hg3)
      clear hg3 cf
      go_wp2
      go_meet
      have h := HN.out
      unfold RES
      rw [← HL4.out]
      simpa [textB, textL, strL_length] using h
    case rest =>
     clear ST
     have ST : Hid (RE w2 wc gb (nmC k ow nu ix tx) u5 L4) := hcut
     clear hcut
     generalize wc = wi at *
     obtain ⟨A8, n8, c8, rfl, H8, _⟩ := own_slice ST.out.grew.own
     have hcv := run_strT wi _ _ _ c8 _ (OwnB.rd ST.out.grew.own H8.out)
     have F8 := Lib.hid (FG.out.trans ST.out.grew.fr0)
     go_wp2
     go_ret2
     exact ⟨rfl, F8.out⟩
set_option maxRecDepth 100000 in
set_option maxHeartbeats 4000000 in
theorem rNEnc_bad (n : NameV) (w : World) (ho : n.owner.size ≤ 16777216) (ht : n.text.size ≤ 16777216) (hok : okNm n = false) : Calls Tryz.prog 35 #[.agg n.cells.toArray] w (fun e w' => ∃ q, e = .returned (.tuple #[.string ByteArray.empty, .int .i64 q]) ∧ Fr Nothing w w' ∧ q ≠ 0) := by
 have CH : Hid (∀ w', Calls Tryz.prog 65 #[.agg n.cells.toArray] w' (Checked w' n)) := fun w' => rCheck_any n w' (by omega) (by omega)
 have HOK := Lib.hid hok
 clear hok ho ht
 go_enter Tryz.func35, Tryz.ntmps35
 go_wp2_with (refine wpList_boxBlk rfl 57 (.tmp 0) rfl n.cells.toArray rfl ?_)
 intro w1 n1
 have F1 := Lib.hid n1.fr
 have NB0 := Lib.hid n1.blk
 clear n1
 generalize w.heap.size = gb at *
 have NB1 : Hid (Blk w1 gb 57 n.cells.toArray) := NB0.out
 clear NB0
 go_wp2_with (refine wpList_load_add rfl 57 (.tmp 1) rfl ⟨gb, 0, none⟩ rfl n.cells _ ?hcc1 Tryz.underlying57 rfl infoN (Held.go ?hold1))
 case hcc1 => exact fun j x hx => by rw [Addr.add_mid, Nat.zero_add]; exact NB1.out.cell j |>.trans (by rw [← List.getElem?_toArray] at hx; exact hx)
 unfold Held
 go_wp2_with fail
 refine (CH.out _).mono ?_
 rintro e w2 ⟨q, rfl, hq, f2⟩
 have hq0 : q ≠ 0 := by
  rw [HOK.out] at hq
  exact beq_eq_false_iff_ne.1 hq
 have tb : (q != 0) = true := by rw [bne_iff_ne]; exact hq0
 have HQ := Lib.hid hq0
 have F2 := Lib.hid (F1.out.trans f2)
 clear hq f2 CH HOK NB1 F1 hq0
 go_wp2
 go_ret2
 exact ⟨q, rfl, F2.out, HQ.out⟩
theorem rNEnc_any (n : NameV) (w : World) (ho : n.owner.size ≤ 16777216) (ht : n.text.size ≤ 16777216) : Calls Tryz.prog 35 #[.agg n.cells.toArray] w (REnc w n) := by
 cases hok : okNm n
 ·refine (rNEnc_bad n w ho ht hok).mono ?_
  rintro e w' ⟨q, rfl, hf, hq⟩
  exact ⟨_, q, rfl, hf, .inr ⟨hok, hq⟩⟩
 ·obtain ⟨hk, u, hu, _⟩ := okNm_us hok
  obtain ⟨kd, ow, nu, ix, tx⟩ := n
  obtain ⟨wd, bo, bn, bi, bt, mo⟩ := u
  simp only at ho ht hk hu
  obtain ⟨k, rfl⟩ : ∃ k : Nat, kd = (k : Int) := ⟨kd.toNat, by omega⟩
  rw [Int.toNat_natCast] at hu
  refine (rNEnc_all k ow nu ix tx wd bo bn bi bt mo w (by omega) hu ho ht hok).mono ?_
  rintro e w' ⟨rfl, hf⟩
  refine ⟨_, 0, rfl, hf, .inl ⟨hok, rfl, ?_⟩⟩
  rw [nameL_of (u := ⟨wd, bo, bn, bi, bt, mo⟩) (by simp only [Int.toNat_natCast]; exact hu)]
end Go.Proofs.YtpnchdgplpdefaaGreatDoor
namespace Go.Proofs.YtpnchdgplpdefaaGreatDoor
open Go.RowKit Go.Shelf
theorem CL.one {w : World} {g : Nat} {t : TypeId} {c : CV} (h : Blk w g t c.cells.toArray) : CL w (fun _ => True) (some ⟨g, 0, none⟩) 1 [c] := by
 refine ⟨⟨rfl, fun _ => ⟨_, rfl, trivial, fun j y hy => ?_⟩⟩, rfl⟩
 rw [Addr.add_mid, Nat.zero_add, h.cell, List.getElem?_toArray]
 simpa using hy
theorem RApplied.one {w w' : World} {L : List Ent} {c : CV} {e : Ending} (h : RApplied w L [c] e w') : ∃ p k, e = .returned (.tuple #[p, .int .i64 k]) ∧ Fr Nothing w w' ∧
  ((okNm c.nm = true ∧ k = 0 ∧ RowE w' p (nextC c L)) ∨ (okNm c.nm = false ∧ k = 12 ∧ p = .slice none 0 0)) := by
 obtain ⟨p, k, he, hf, h1 | h1⟩ := h
 ·exact ⟨p, k, he, hf, .inl ⟨h1.1 c (List.mem_singleton.2 rfl), h1.2.1, h1.2.2⟩⟩
 ·obtain ⟨⟨x, hx, ho⟩, h2, h3⟩ := h1
  rw [List.mem_singleton] at hx
  subst hx
  exact ⟨p, k, he, hf, .inr ⟨ho, h2, h3⟩⟩
def Oned (w : World) (c : CV) (L : List Ent) (e : Ending) (w' : World) : Prop := ∃ s' rv', e = .returned (.tuple #[.pointer (some ⟨s', 0, none⟩), rv', .bool true]) ∧ Fr Nothing w w' ∧ StL w' s' (stepC c L) ∧ RowE w' rv' (stepC c L)
set_option maxRecDepth 100000 in
set_option maxHeartbeats 4000000 in
theorem one_any (L : List Ent) (c : CV) (s m : Nat) (rv : Value) (w : World) (hS : StL w s L) (hR : RowE w rv L) (hU : UsaT w) (hG : GoodK m L) (hC : SmallC c) (hm : m + 1 ≤ 60000) :
  Calls Tryz.prog 19 #[.pointer (some ⟨s, 0, none⟩), rv, .agg c.cells.toArray, .agg c.cells.toArray] w (Oned w c L) := by
 obtain ⟨ic, hic, hzc, hc1, hc2⟩ := info_parts zinfoC
 obtain ⟨A1, n1, c1, rfl, H1, _⟩ := own_slice hR
 have HS := Lib.hid hS
 have HR := Lib.hid hR
 have HU := Lib.hid hU
 have HC := Lib.hid hC
 have GK := Lib.hid hG
 have GL : Hid (GoodL L) := hG.good (by omega)
 have CO := Lib.hid c.one
 have fl5 := Lib.hid (fill_seven c.cells.toArray ((Array.range (1 * 7)).map (zeroC.cells[· % zeroC.cells.size]!)) rfl (by simp))
 have gc1 : Hid (¬ 1 * ic.size > 2 ^ 24) := by simp only [Hid]; rw [hc1]; omega
 have gc2 : Hid (¬ 1 * ic.size = 0) := by simp only [Hid]; rw [hc1]; omega
 have gc3 : Hid (Instr.fill (fun i => some (i * ic.size, ic.size)) ((Array.range (1 * ic.size)).map (zeroC.cells[· % zeroC.cells.size]!)) [(0, .agg c.cells.toArray)] = some c.cells.toArray) := by simp only [Hid]; rw [hc1]; exact fl5.out
 clear hS hR hU hC hG fl5
 go_enter Tryz.func19, Tryz.ntmps19
 go_wp2_with (refine wpList_boxBlk rfl 55 (.tmp 2) rfl c.cells.toArray rfl ?_)
 intro wa na
 have BA := Lib.hid na.blk
 have FA := Lib.hid na.fr
 clear na
 generalize w.heap.size = g6 at *
 go_wp2_with (refine wpList_boxBlk rfl 59 (.tmp 3) rfl c.cells.toArray rfl ?_)
 intro wb nb
 have B7a := Lib.hid nb.blk
 have FB : Hid (Fr Nothing w wb) := FA.out.trans nb.fr
 have B6 : Hid (Blk wb g6 55 c.cells.toArray) := BA.out.fr nb.fr (fun x => x)
 clear nb
 generalize wa.heap.size = g7 at *
 have B7 : Hid (Blk wb g7 59 c.cells.toArray) := B7a.out
 clear B7a FA BA
 have cA : wb.cell? { block := g6, off := 6 } = some (.bool c.absent) := B6.out.cell 6
 have cV : wb.cell? { block := g6, off := 5 } = some (.string c.value) := B6.out.cell 5
 have CN : Hid (∀ j x, c.nm.cells[j]? = some x → wb.cell? ((⟨g6, 0, none⟩ : Addr).add j) = some x) := fun j x hx => by
  rw [Addr.add_mid, Nat.zero_add, B6.out.cell j, List.getElem?_toArray, CV.cells, List.getElem?_append_left (List.getElem?_eq_some_iff.1 hx).1]
  exact hx
 cases hab : c.absent
 ·rw [hab] at cA
  have HN : Hid (nextC c L = insL c.nm c.value L) := by simp only [Hid, nextC, hab]; rfl
  have CW : Hid (∀ w', Fr Nothing w w' → Calls Tryz.prog 14 #[.pointer (some ⟨s, 0, none⟩), .agg c.nm.cells.toArray, .string c.value] w' (Withed w' L c.nm c.value)) := fun w' f => With_any _ _ _ _ _ (HS.out.fr0 f) (HU.out.fr0 f) GL.out HC.out.name
  have HV : Hid (c.value.size ≤ 65536) := by have := HC.out.value; simp only [Hid]; omega
  clear hab
  go_wp2_with (refine wpList_load_add rfl 44 (.tmp 26) rfl ⟨g6, 0, none⟩ rfl c.nm.cells _ ?hcn1 Tryz.underlying44 rfl infoName (Held.go ?hold1))
  case hcn1 => exact CN.out
  unfold Held
  go_wp2_with fail
  refine (CW.out _ FB.out).mono ?_
  rintro e w3 ⟨p, q, rfl, f3, hcase⟩
  have F3 : Hid (Fr Nothing w w3) := FB.out.trans f3
  have B7c : Hid (Blk w3 g7 59 c.cells.toArray) := B7.out.fr f3 (fun x => x)
  cases hok : okNm c.nm
  ·have hcc : q = 12 ∧ p = none := by
    rcases hcase with ⟨h, _⟩ | ⟨_, h⟩ | ⟨h, _⟩
    ·rw [hok] at h; cases h
    ·exact h
    ·rw [hok] at h; cases h
   obtain ⟨rfl, rfl⟩ := hcc
   have HOK := Lib.hid hok
   clear hcase hok f3
   go_wp2_with (refine wpList_load_add rfl 59 (.tmp 7) rfl ⟨g7, 0, none⟩ rfl c.cells _ ?hcc12 Tryz.underlying59 rfl infoC (Held.go ?hold12))
   case hcc12 => exact fun j x hx => by rw [Addr.add_mid, Nat.zero_add, B7c.out.cell, List.getElem?_toArray]; exact hx
   unfold Held
   refine wpList_buildSlice rfl 22 59 1 #[(0, .tmp 35)] rfl c.cells.toArray ic zeroC Tryz.underlying22 hic hzc gc1.out gc2.out (by simp only [List.map_toArray, List.map_cons, List.map_nil]; exact gc3.out) ?_
   have B4 := Lib.hid (Blk.new w3 59 c.cells.toArray)
   have F4 : Hid (Fr Nothing w (w3.alloc (.cells c.cells.toArray 59))) := F3.out.trans ((Fr.refl Nothing w3).alloc _)
   have F34 : Hid (Fr Nothing w3 (w3.alloc (.cells c.cells.toArray 59))) := (Fr.refl Nothing w3).alloc _
   generalize w3.heap.size = g4 at *
   generalize w3.alloc (.cells c.cells.toArray 59) = w4 at *
   have CA : Hid (Calls Tryz.prog 49 #[.slice A1 n1 c1, .slice (some ⟨g4, 0, none⟩) 1 1] w4 (RApplied w4 L [c])) := rApply_any L [c] 1 m _ _ _ _ w4 (HR.out.fr0 F4.out) GK.out (CL.one B4.out) (fun x hx => by rw [List.mem_singleton] at hx; subst hx; exact HC.out) hm
   go_wp2_with fail
   refine CA.out.mono ?_
   intro e w5 hA
   obtain ⟨p2, q2, rfl, f5, hcase2⟩ := hA.one
   have F5 : Hid (Fr Nothing w w5) := F4.out.trans f5
   have F35 : Hid (Fr Nothing w3 w5) := F34.out.trans f5
   obtain ⟨rfl, rfl⟩ : q2 = 12 ∧ p2 = .slice none 0 0 := by
    rcases hcase2 with ⟨h, _⟩ | ⟨_, h⟩
    ·rw [HOK.out] at h; cases h
    ·exact h
   clear hcase2 hA f5
   go_wp2
   go_ret3
   refine ⟨s, _, rfl, F5.out, ?_, ?_⟩
   ·rw [stepC, HOK.out]
    exact HS.out.fr0 F5.out
   ·rw [stepC, HOK.out]
    exact HR.out.fr0 F5.out
  ·obtain ⟨rfl, s', rfl, hp⟩ : q = 0 ∧ ∃ s', p = some ⟨s', 0, none⟩ ∧ StL w3 s' (nextC c L) := by
    rw [HN.out]
    rcases hcase with ⟨_, _, h⟩ | ⟨h, _⟩ | ⟨_, h, _⟩
    ·exact h
    ·rw [hok] at h; cases h
    ·exact absurd HV.out (by omega)
   have HOK := Lib.hid hok
   have HP := Lib.hid hp
   clear hcase hok f3 hp
   go_wp2_with (refine wpList_load_add rfl 59 (.tmp 7) rfl ⟨g7, 0, none⟩ rfl c.cells _ ?hcc13 Tryz.underlying59 rfl infoC (Held.go ?hold13))
   case hcc13 => exact fun j x hx => by rw [Addr.add_mid, Nat.zero_add, B7c.out.cell, List.getElem?_toArray]; exact hx
   unfold Held
   refine wpList_buildSlice rfl 22 59 1 #[(0, .tmp 35)] rfl c.cells.toArray ic zeroC Tryz.underlying22 hic hzc gc1.out gc2.out (by simp only [List.map_toArray, List.map_cons, List.map_nil]; exact gc3.out) ?_
   have B4 := Lib.hid (Blk.new w3 59 c.cells.toArray)
   have F4 : Hid (Fr Nothing w (w3.alloc (.cells c.cells.toArray 59))) := F3.out.trans ((Fr.refl Nothing w3).alloc _)
   have F34 : Hid (Fr Nothing w3 (w3.alloc (.cells c.cells.toArray 59))) := (Fr.refl Nothing w3).alloc _
   generalize w3.heap.size = g4 at *
   generalize w3.alloc (.cells c.cells.toArray 59) = w4 at *
   have CA : Hid (Calls Tryz.prog 49 #[.slice A1 n1 c1, .slice (some ⟨g4, 0, none⟩) 1 1] w4 (RApplied w4 L [c])) := rApply_any L [c] 1 m _ _ _ _ w4 (HR.out.fr0 F4.out) GK.out (CL.one B4.out) (fun x hx => by rw [List.mem_singleton] at hx; subst hx; exact HC.out) hm
   go_wp2_with fail
   refine CA.out.mono ?_
   intro e w5 hA
   obtain ⟨p2, q2, rfl, f5, hcase2⟩ := hA.one
   have F5 : Hid (Fr Nothing w w5) := F4.out.trans f5
   have F35 : Hid (Fr Nothing w3 w5) := F34.out.trans f5
   obtain ⟨rfl, hp2⟩ : q2 = 0 ∧ RowE w5 p2 (nextC c L) := by
    rcases hcase2 with ⟨_, h⟩ | ⟨h, _⟩
    ·exact h
    ·rw [HOK.out] at h; cases h
   have HP2 := Lib.hid hp2
   clear hcase2 hp2 hA f5
   go_wp2
   go_ret3
   refine ⟨s', _, rfl, F5.out, ?_, ?_⟩
   ·rw [stepC, HOK.out]
    exact HP.out.fr0 F35.out
   ·rw [stepC, HOK.out]
    exact HP2.out
 ·rw [hab] at cA
  have HN : Hid (nextC c L = delL c.nm L) := by simp only [Hid, nextC, hab]; rfl
  have CW : Hid (∀ w', Fr Nothing w w' → Calls Tryz.prog 16 #[.pointer (some ⟨s, 0, none⟩), .agg c.nm.cells.toArray] w' (Withouted w' L c.nm)) := fun w' f => Without_any _ _ _ _ (HS.out.fr0 f) (HU.out.fr0 f) GL.out HC.out.name
  have HV : Hid (c.value.size ≤ 65536) := by have := HC.out.value; simp only [Hid]; omega
  clear hab
  go_wp2_with (refine wpList_load_add rfl 44 (.tmp 19) rfl ⟨g6, 0, none⟩ rfl c.nm.cells _ ?hcn2 Tryz.underlying44 rfl infoName (Held.go ?hold2))
  case hcn2 => exact CN.out
  unfold Held
  go_wp2_with fail
  refine (CW.out _ FB.out).mono ?_
  rintro e w3 ⟨p, q, rfl, f3, hcase⟩
  have F3 : Hid (Fr Nothing w w3) := FB.out.trans f3
  have B7c : Hid (Blk w3 g7 59 c.cells.toArray) := B7.out.fr f3 (fun x => x)
  cases hok : okNm c.nm
  ·have hcc : q = 12 ∧ p = none := by
    rcases hcase with ⟨h, _⟩ | ⟨_, h⟩ 
    ·rw [hok] at h; cases h
    ·exact h
   obtain ⟨rfl, rfl⟩ := hcc
   have HOK := Lib.hid hok
   clear hcase hok f3
   go_wp2_with (refine wpList_load_add rfl 59 (.tmp 7) rfl ⟨g7, 0, none⟩ rfl c.cells _ ?hcc10 Tryz.underlying59 rfl infoC (Held.go ?hold10))
   case hcc10 => exact fun j x hx => by rw [Addr.add_mid, Nat.zero_add, B7c.out.cell, List.getElem?_toArray]; exact hx
   unfold Held
   refine wpList_buildSlice rfl 22 59 1 #[(0, .tmp 35)] rfl c.cells.toArray ic zeroC Tryz.underlying22 hic hzc gc1.out gc2.out (by simp only [List.map_toArray, List.map_cons, List.map_nil]; exact gc3.out) ?_
   have B4 := Lib.hid (Blk.new w3 59 c.cells.toArray)
   have F4 : Hid (Fr Nothing w (w3.alloc (.cells c.cells.toArray 59))) := F3.out.trans ((Fr.refl Nothing w3).alloc _)
   have F34 : Hid (Fr Nothing w3 (w3.alloc (.cells c.cells.toArray 59))) := (Fr.refl Nothing w3).alloc _
   generalize w3.heap.size = g4 at *
   generalize w3.alloc (.cells c.cells.toArray 59) = w4 at *
   have CA : Hid (Calls Tryz.prog 49 #[.slice A1 n1 c1, .slice (some ⟨g4, 0, none⟩) 1 1] w4 (RApplied w4 L [c])) := rApply_any L [c] 1 m _ _ _ _ w4 (HR.out.fr0 F4.out) GK.out (CL.one B4.out) (fun x hx => by rw [List.mem_singleton] at hx; subst hx; exact HC.out) hm
   go_wp2_with fail
   refine CA.out.mono ?_
   intro e w5 hA
   obtain ⟨p2, q2, rfl, f5, hcase2⟩ := hA.one
   have F5 : Hid (Fr Nothing w w5) := F4.out.trans f5
   have F35 : Hid (Fr Nothing w3 w5) := F34.out.trans f5
   obtain ⟨rfl, rfl⟩ : q2 = 12 ∧ p2 = .slice none 0 0 := by
    rcases hcase2 with ⟨h, _⟩ | ⟨_, h⟩
    ·rw [HOK.out] at h; cases h
    ·exact h
   clear hcase2 hA f5
   go_wp2
   go_ret3
   refine ⟨s, _, rfl, F5.out, ?_, ?_⟩
   ·rw [stepC, HOK.out]
    exact HS.out.fr0 F5.out
   ·rw [stepC, HOK.out]
    exact HR.out.fr0 F5.out
  ·obtain ⟨rfl, s', rfl, hp⟩ : q = 0 ∧ ∃ s', p = some ⟨s', 0, none⟩ ∧ StL w3 s' (nextC c L) := by
    rw [HN.out]
    rcases hcase with ⟨_, h⟩ | ⟨h, _⟩
    ·exact h
    ·rw [hok] at h; cases h
   have HOK := Lib.hid hok
   have HP := Lib.hid hp
   clear hcase hok f3 hp
   go_wp2_with (refine wpList_load_add rfl 59 (.tmp 7) rfl ⟨g7, 0, none⟩ rfl c.cells _ ?hcc11 Tryz.underlying59 rfl infoC (Held.go ?hold11))
   case hcc11 => exact fun j x hx => by rw [Addr.add_mid, Nat.zero_add, B7c.out.cell, List.getElem?_toArray]; exact hx
   unfold Held
   refine wpList_buildSlice rfl 22 59 1 #[(0, .tmp 35)] rfl c.cells.toArray ic zeroC Tryz.underlying22 hic hzc gc1.out gc2.out (by simp only [List.map_toArray, List.map_cons, List.map_nil]; exact gc3.out) ?_
   have B4 := Lib.hid (Blk.new w3 59 c.cells.toArray)
   have F4 : Hid (Fr Nothing w (w3.alloc (.cells c.cells.toArray 59))) := F3.out.trans ((Fr.refl Nothing w3).alloc _)
   have F34 : Hid (Fr Nothing w3 (w3.alloc (.cells c.cells.toArray 59))) := (Fr.refl Nothing w3).alloc _
   generalize w3.heap.size = g4 at *
   generalize w3.alloc (.cells c.cells.toArray 59) = w4 at *
   have CA : Hid (Calls Tryz.prog 49 #[.slice A1 n1 c1, .slice (some ⟨g4, 0, none⟩) 1 1] w4 (RApplied w4 L [c])) := rApply_any L [c] 1 m _ _ _ _ w4 (HR.out.fr0 F4.out) GK.out (CL.one B4.out) (fun x hx => by rw [List.mem_singleton] at hx; subst hx; exact HC.out) hm
   go_wp2_with fail
   refine CA.out.mono ?_
   intro e w5 hA
   obtain ⟨p2, q2, rfl, f5, hcase2⟩ := hA.one
   have F5 : Hid (Fr Nothing w w5) := F4.out.trans f5
   have F35 : Hid (Fr Nothing w3 w5) := F34.out.trans f5
   obtain ⟨rfl, hp2⟩ : q2 = 0 ∧ RowE w5 p2 (nextC c L) := by
    rcases hcase2 with ⟨_, h⟩ | ⟨h, _⟩
    ·exact h
    ·rw [HOK.out] at h; cases h
   have HP2 := Lib.hid hp2
   clear hcase2 hp2 hA f5
   go_wp2
   go_ret3
   refine ⟨s', _, rfl, F5.out, ?_, ?_⟩
   ·rw [stepC, HOK.out]
    exact HP.out.fr0 F35.out
   ·rw [stepC, HOK.out]
    exact HP2.out
end Go.Proofs.YtpnchdgplpdefaaGreatDoor
