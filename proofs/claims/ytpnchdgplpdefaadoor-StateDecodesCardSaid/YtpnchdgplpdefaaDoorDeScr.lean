/- State: the reference's Decode of names (written by genScr.py). -/
import Derived.Test.YtpnchdgplpdefaaDoorDeScn
import Derived.Test.YtpnchdgplpdefaaDoorDeScq
import Derived.Test.YtpnchdgplpdefaaDoorDeSbG
namespace Go.Proofs.YtpnchdgplpdefaaDoor
open Go.RowKit Go.Shelf
theorem zvNRef (w : World) : (zeroValue 40).run Tryd.prog w = .ok nameZ w := by kernel_rfl
theorem infoNr5 : (Tryd.prog.info? 40).map (·.size) = some 5 := by kernel_rfl
theorem kindU_in {k : Nat} {u : Usa} (h : 1 ≤ k ∧ k ≤ 20) (hu : usaL[k]? = some u) : kindU (k : Int) = u := by
 unfold kindU
 rw [if_pos (by omega), Int.toNat_natCast, hu]
 rfl
theorem kindU_out {k : Int} (h : ¬ (1 ≤ k ∧ k ≤ 20)) : kindU k = ⟨ByteArray.empty, false, false, false, false, 0⟩ := by
 unfold kindU
 rw [if_neg h]
theorem usa_row {k : Nat} (h : 1 ≤ k ∧ k ≤ 20) : ∃ u, usaL[k]? = some u := by
 have hl : usaL.length = 21 := by decide
 exact ⟨_, List.getElem?_eq_getElem (show k < usaL.length by omega)⟩
theorem rOwned_all (k : Int) (w : World) : Calls Tryd.prog 97 #[.int .i64 k] w (SameW w (.bool (kindU k).owner)) := by
 by_cases h : 1 ≤ k ∧ k ≤ 20
 ·obtain ⟨j, rfl⟩ : ∃ j : Nat, k = (j : Int) := ⟨k.toNat, by omega⟩
  obtain ⟨u, hu⟩ := usa_row (k := j) (by omega)
  rw [kindU_in (by omega) hu]
  exact rOwned_any j u w (by omega) hu
 ·rw [kindU_out h]
  by_cases h1 : k < 1
  ·exact rOwned_lo k w h1
  ·exact rOwned_hi k w (by omega)
theorem rNumbered_all (k : Int) (w : World) : Calls Tryd.prog 99 #[.int .i64 k] w (SameW w (.bool (kindU k).number)) := by
 by_cases h : 1 ≤ k ∧ k ≤ 20
 ·obtain ⟨j, rfl⟩ : ∃ j : Nat, k = (j : Int) := ⟨k.toNat, by omega⟩
  obtain ⟨u, hu⟩ := usa_row (k := j) (by omega)
  rw [kindU_in (by omega) hu]
  exact rNumbered_any j u w (by omega) hu
 ·rw [kindU_out h]
  by_cases h1 : k < 1
  ·exact rNumbered_lo k w h1
  ·exact rNumbered_hi k w (by omega)
theorem rTexted_all (k : Int) (w : World) : Calls Tryd.prog 101 #[.int .i64 k] w (SameW w (.bool (kindU k).text)) := by
 by_cases h : 1 ≤ k ∧ k ≤ 20
 ·obtain ⟨j, rfl⟩ : ∃ j : Nat, k = (j : Int) := ⟨k.toNat, by omega⟩
  obtain ⟨u, hu⟩ := usa_row (k := j) (by omega)
  rw [kindU_in (by omega) hu]
  exact rTexted_any j u w (by omega) hu
 ·rw [kindU_out h]
  by_cases h1 : k < 1
  ·exact rTexted_lo k w h1
  ·exact rTexted_hi k w (by omega)
theorem rMost_all (k : Int) (w : World) : Calls Tryd.prog 100 #[.int .i64 k] w (SameW w (.int .i64 (if (kindU k).index = true then (kindU k).most else -1))) := by
 by_cases h : 1 ≤ k ∧ k ≤ 20
 ·obtain ⟨j, rfl⟩ : ∃ j : Nat, k = (j : Int) := ⟨k.toNat, by omega⟩
  obtain ⟨u, hu⟩ := usa_row (k := j) (by omega)
  rw [kindU_in (by omega) hu]
  exact rMost_any j u w (by omega) hu
 ·rw [kindU_out h]
  by_cases h1 : k < 1
  ·exact rMost_lo k w h1
  ·exact rMost_hi k w (by omega)
theorem kindU_most (k : Int) : 0 ≤ (kindU k).most := by
 by_cases h : 1 ≤ k ∧ k ≤ 20
 ·obtain ⟨j, rfl⟩ : ∃ j : Nat, k = (j : Int) := ⟨k.toNat, by omega⟩
  obtain ⟨u, hu⟩ := usa_row (k := j) (by omega)
  rw [kindU_in (by omega) hu]
  have hm : ∀ x ∈ usaL, 0 ≤ x.most := by decide
  exact hm _ (List.mem_of_getElem? hu)
 ·rw [kindU_out h]
  exact Int.le_refl _
structure RD (w W : World) (gr gn : Nat) (nm : Array Value) : Prop where
 nb : Blk W gn 40 nm
 rb : Blk W gr 40 (nmD 0 ByteArray.empty 0 0 ByteArray.empty)
 fr : Fr Nothing w W
theorem RD.far {w W W' : World} {gr gn : Nat} {nm : Array Value} (h : RD w W gr gn nm) (f : Fr Nothing W W') : RD w W' gr gn nm := ⟨h.nb.fr f (fun x => x), h.rb.fr f (fun x => x), h.fr.trans f⟩
theorem RD.put {w W W' : World} {gr gn : Nat} {nm nm' : Array Value} (h : RD w W gr gn nm) (hn : w.heap.size ≤ gn ∧ gr ≠ gn) (hb : Blk W' gn 40 nm') (f : Fr (fun k => k = gn) W W') : RD w W' gr gn nm' :=
 ⟨hb, h.rb.fr f (fun e => hn.2 e), h.fr.then_ f (fun i hi e => by have e' : i = gn := e; have := hn.1; omega)⟩
def RNDec (w : World) (l : List UInt8) (e : Ending) (w' : World) : Prop := e = .returned (.tuple #[.agg (rdecN l).1.cells.toArray, .int .i64 (rdecN l).2]) ∧ Fr Nothing w w'
set_option maxRecDepth 100000 in
set_option maxHeartbeats 4000000 in
theorem rNDec_any (s : ByteArray) (w : World) (hs : s.size ≤ 16777216) : Calls Tryd.prog 71 #[.string s] w (RNDec w (strL s)) := by
 have HSZ := Lib.hid hs
 have CTK : Hid (∀ (r : ByteArray) (w' : World), r.size ≤ 1099511627776 → Calls Tryd.prog 96 #[.string r] w' (Same' w' (.tuple #[.int .i64 (takeL (strL r)).1, .string ⟨(takeL (strL r)).2.toArray⟩]))) := fun r w' h => take_any r w' h
 have CPC : Hid (∀ (r : ByteArray) (w' : World), r.size ≤ 1099511627776 → Calls Tryd.prog 98 #[.string r] w' (Same' w' (.tuple #[.string ⟨(pieceL (strL r)).1.toArray⟩, .string ⟨(pieceL (strL r)).2.toArray⟩]))) := fun r w' h => piece_any r w' h
 obtain ⟨l, hl⟩ : ∃ l, strL s = l := ⟨_, rfl⟩
 have HLS : Hid (s = ⟨l.toArray⟩ ∧ strL s = l) := ⟨ba_of s l hl, hl⟩
 have ls : l.length ≤ 16777216 := by rw [← hl, strL_length]; exact hs
 rw [hl]
 obtain ⟨a0, ha0⟩ : ∃ a, takeL l = a := ⟨_, rfl⟩
 obtain ⟨u, hu⟩ : ∃ u, kindU a0.1 = u := ⟨_, rfl⟩
 have CO := Lib.hid (rOwned_all a0.1)
 have CN := Lib.hid (rNumbered_all a0.1)
 have CM := Lib.hid (rMost_all a0.1)
 have CT := Lib.hid (rTexted_all a0.1)
 have m0 := kindU_most a0.1
 rw [hu] at CO CN CM CT m0
 obtain ⟨wd, bo, bn, bi, bt, mo⟩ := u
 simp only at CO CN CM CT m0
 have hmd : decide ((0 : Int) ≤ (if bi = true then mo else -1)) = bi := own_of_idx m0
 obtain ⟨mv, hmv⟩ : ∃ mv : Int, mv = (if bi = true then mo else -1) := ⟨_, rfl⟩
 rw [← hmv] at hmd CM
 obtain ⟨a1, ha1⟩ : ∃ a, gst1 ⟨wd, bo, bn, bi, bt, mo⟩ a0.2 = a := ⟨_, rfl⟩
 obtain ⟨a2, ha2⟩ : ∃ a, gst2 ⟨wd, bo, bn, bi, bt, mo⟩ a1.2 = a := ⟨_, rfl⟩
 obtain ⟨a3, ha3⟩ : ∃ a, gst3 ⟨wd, bo, bn, bi, bt, mo⟩ a2.2 = a := ⟨_, rfl⟩
 obtain ⟨a4, ha4⟩ : ∃ a, gst4 ⟨wd, bo, bn, bi, bt, mo⟩ a3.2 = a := ⟨_, rfl⟩
 have hg : guessN l = (⟨a0.1, ⟨a1.1.toArray⟩, a2.1, a3.1, ⟨a4.1.toArray⟩⟩, a4.2) := by
  rw [guessN, ha0, hu, guessU, ha1, ha2, ha3, ha4]
 have hz : a1.1.length ≤ 16777216 ∧ a4.1.length ≤ 16777216 ∧ a0.2.length ≤ 16777216 ∧ a1.2.length ≤ 16777216 ∧ a2.2.length ≤ 16777216 ∧ a3.2.length ≤ 16777216 := by
  have h0 := takeL_range l
  have h1 := pieceL_len a0.2
  have h2 := takeL_range a1.2
  have h3 := takeL_range a2.2
  have h4 := pieceL_len a3.2
  rw [ha0] at h0
  have e1 : a1.1.length ≤ a0.2.length ∧ a1.2.length ≤ a0.2.length := by rw [← ha1]; unfold gst1; split <;> (try simp) <;> omega
  have e2 : a2.2.length ≤ a1.2.length := by rw [← ha2]; unfold gst2; split <;> (try simp) <;> omega
  have e3 : a3.2.length ≤ a2.2.length := by rw [← ha3]; unfold gst3; split <;> (try simp) <;> omega
  have e4 : a4.1.length ≤ a3.2.length := by rw [← ha4]; unfold gst4; split <;> (try simp) <;> omega
  omega
 have HZ := Lib.hid hz
 obtain ⟨nm, hnm⟩ : ∃ nm : NameV, nm = ⟨a0.1, ⟨a1.1.toArray⟩, a2.1, a3.1, ⟨a4.1.toArray⟩⟩ := ⟨_, rfl⟩
 rw [← hnm] at hg
 have HNM := Lib.hid hnm
 have HRD : Hid (rdecN l = if okNm nm = true ∧ nameL nm = l ∧ a4.2 = [] then (nm, 0) else (nmZ, 3)) := by simp only [Hid]; rw [rdecN, hg]
 have HA0 := Lib.hid ha0
 have HA1 := Lib.hid ha1
 have HA2 := Lib.hid ha2
 have HA3 := Lib.hid ha3
 have HA4 := Lib.hid ha4
 clear hl hu hmv ha0 ha1 ha2 ha3 ha4 hg hz hnm m0 ls hs
 go_enter Tryd.func71, Tryd.ntmps71
 go_wp2_with (refine wpList_allocBlk rfl 40 rfl nameZ zvNRef (nmD 0 ByteArray.empty 0 0 ByteArray.empty) rfl ?_)
 intro w1 n1
 have F1 := Lib.hid n1.fr
 have RB1 := Lib.hid n1.blk
 have HGR : Sz w w.heap.size := Nat.le_refl _
 clear n1
 generalize w.heap.size = gr at *
 go_wp2_with (refine wpList_allocBlk rfl 40 rfl nameZ zvNRef (nmD 0 ByteArray.empty 0 0 ByteArray.empty) rfl ?_)
 intro w2 n2
 have HGN : Hid (w.heap.size ≤ w1.heap.size ∧ gr ≠ w1.heap.size) := ⟨F1.out.size, by have := RB1.out.lt; omega⟩
 have ST0 : Hid (RD w w2 gr w1.heap.size (nmD 0 ByteArray.empty 0 0 ByteArray.empty)) := ⟨n2.blk, RB1.out.fr n2.fr (fun x => x), F1.out.trans n2.fr⟩
 clear n2 F1 RB1
 generalize w1.heap.size = gn at *
 go_wp2_with fail
 refine (CTK.out s _ (by have := HSZ.out; omega)).mono ?_
 rintro e w3 ⟨rfl, f3⟩
 rw [HLS.out.2, HA0.out]
 have ST3 := Lib.hid (ST0.out.far f3)
 clear f3 ST0
 go_wp2_with (refine wpList_storeOne rfl 3 (.tmp 14) (.tmp 12) rfl gn 0 (.int .i64 a0.1) rfl rfl rfl infoInt1 _ _ (nmD a0.1 ByteArray.empty 0 0 ByteArray.empty) ST3.out.nb (by simp [nmD]) rfl ?_)
 intro wi bi_ fi
 have ST : Hid (RD w wi gr gn (nmD a0.1 ByteArray.empty 0 0 ByteArray.empty)) := ST3.out.put HGN.out bi_ fi
 clear bi_ fi ST3
 have c0 : wi.cell? ⟨gn, 0, none⟩ = some (.int .i64 a0.1) := ST.out.nb.cell 0
 go_wp2_with fail
 refine (CO.out _).mono ?_
 rintro e wj ⟨rfl, rfl⟩
 go_upto_if 17 with fail
 clear c0
 go_cut [5] (fun p5 wx => p5 = .string ⟨a1.2.toArray⟩ ∧ RD w wx gr gn (nmD a0.1 ⟨a1.1.toArray⟩ 0 0 ByteArray.empty))
 case first =>
  cases bo
  ·go_wp2
   go_meet
   rw [← HA1.out]
   exact ⟨rfl, ST.out⟩
  ·go_wp2_with fail
   refine (CPC.out ⟨a0.2.toArray⟩ _ (by have := HZ.out.2.2.1; simp [ByteArray.size]; omega)).mono ?_
   rintro e wj ⟨rfl, fj⟩
   rw [strL_mk]
   have SJ := Lib.hid (ST.out.far fj)
   clear fj
   go_wp2_with (refine wpList_storeOne rfl 9 (.tmp 23) (.tmp 21) rfl gn 1 (.string ⟨(pieceL a0.2).1.toArray⟩) rfl rfl rfl infoStr _ _ (nmD a0.1 ⟨(pieceL a0.2).1.toArray⟩ 0 0 ByteArray.empty) SJ.out.nb (by simp [nmD]) rfl ?_)
   intro wk bk fk
   have SK := Lib.hid (SJ.out.put HGN.out bk fk)
   clear bk fk SJ
   go_wp2
   go_meet
   rw [← HA1.out]
   exact ⟨rfl, SK.out⟩
 case rest =>
  obtain ⟨rfl, hns⟩ := hcut
  clear ST
  have ST := Lib.hid hns
  clear hns
  generalize wc = wi at *
  have c0 : wi.cell? ⟨gn, 0, none⟩ = some (.int .i64 a0.1) := ST.out.nb.cell 0
  go_wp2_with fail
  refine (CN.out _).mono ?_
  rintro e wj ⟨rfl, rfl⟩
  go_upto_if 26 with fail
  clear c0
  go_cut [5] (fun p5 wx => p5 = .string ⟨a2.2.toArray⟩ ∧ RD w wx gr gn (nmD a0.1 ⟨a1.1.toArray⟩ a2.1 0 ByteArray.empty))
  case first =>
   cases bn
   ·go_wp2
    go_meet
    rw [← HA2.out]
    exact ⟨rfl, ST.out⟩
   ·go_wp2_with fail
    refine (CTK.out ⟨a1.2.toArray⟩ _ (by have := HZ.out.2.2.2.1; simp [ByteArray.size]; omega)).mono ?_
    rintro e wj ⟨rfl, fj⟩
    rw [strL_mk]
    have SJ := Lib.hid (ST.out.far fj)
    clear fj
    go_wp2_with (refine wpList_storeOne rfl 3 (.tmp 32) (.tmp 30) rfl gn 2 (.int .i64 (takeL a1.2).1) rfl rfl rfl infoInt1 _ _ (nmD a0.1 ⟨a1.1.toArray⟩ (takeL a1.2).1 0 ByteArray.empty) SJ.out.nb (by simp [nmD]) rfl ?_)
    intro wk bk fk
    have SK := Lib.hid (SJ.out.put HGN.out bk fk)
    clear bk fk SJ
    go_wp2
    go_meet
    rw [← HA2.out]
    exact ⟨rfl, SK.out⟩
  case rest =>
   obtain ⟨rfl, hns⟩ := hcut
   clear ST
   have ST := Lib.hid hns
   clear hns
   generalize wc = wi at *
   have c0 : wi.cell? ⟨gn, 0, none⟩ = some (.int .i64 a0.1) := ST.out.nb.cell 0
   go_wp2_with fail
   refine (CM.out _).mono ?_
   rintro e wj ⟨rfl, rfl⟩
   go_upto_if 36 with fail
   clear c0
   go_cut [5] (fun p5 wx => p5 = .string ⟨a3.2.toArray⟩ ∧ RD w wx gr gn (nmD a0.1 ⟨a1.1.toArray⟩ a2.1 a3.1 ByteArray.empty))
   case first =>
    cases bi
    ·go_wp2
     go_meet
     rw [← HA3.out]
     exact ⟨rfl, ST.out⟩
    ·go_wp2_with fail
     refine (CTK.out ⟨a2.2.toArray⟩ _ (by have := HZ.out.2.2.2.2.1; simp [ByteArray.size]; omega)).mono ?_
     rintro e wj ⟨rfl, fj⟩
     rw [strL_mk]
     have SJ := Lib.hid (ST.out.far fj)
     clear fj
     go_wp2_with (refine wpList_storeOne rfl 3 (.tmp 42) (.tmp 40) rfl gn 3 (.int .i64 (takeL a2.2).1) rfl rfl rfl infoInt1 _ _ (nmD a0.1 ⟨a1.1.toArray⟩ a2.1 (takeL a2.2).1 ByteArray.empty) SJ.out.nb (by simp [nmD]) rfl ?_)
     intro wk bk fk
     have SK := Lib.hid (SJ.out.put HGN.out bk fk)
     clear bk fk SJ
     go_wp2
     go_meet
     rw [← HA3.out]
     exact ⟨rfl, SK.out⟩
   case rest =>
    obtain ⟨rfl, hns⟩ := hcut
    clear ST
    have ST := Lib.hid hns
    clear hns
    generalize wc = wi at *
    have c0 : wi.cell? ⟨gn, 0, none⟩ = some (.int .i64 a0.1) := ST.out.nb.cell 0
    go_wp2_with fail
    refine (CT.out _).mono ?_
    rintro e wj ⟨rfl, rfl⟩
    go_upto_if 45 with fail
    clear c0
    go_cut [5] (fun p5 wx => p5 = .string ⟨a4.2.toArray⟩ ∧ RD w wx gr gn (nmD a0.1 ⟨a1.1.toArray⟩ a2.1 a3.1 ⟨a4.1.toArray⟩))
    case first =>
     cases bt
     ·go_wp2
      go_meet
      rw [← HA4.out]
      exact ⟨rfl, ST.out⟩
     ·go_wp2_with fail
      refine (CPC.out ⟨a3.2.toArray⟩ _ (by have := HZ.out.2.2.2.2.2; simp [ByteArray.size]; omega)).mono ?_
      rintro e wj ⟨rfl, fj⟩
      rw [strL_mk]
      have SJ := Lib.hid (ST.out.far fj)
      clear fj
      go_wp2_with (refine wpList_storeOne rfl 9 (.tmp 51) (.tmp 49) rfl gn 4 (.string ⟨(pieceL a3.2).1.toArray⟩) rfl rfl rfl infoStr _ _ (nmD a0.1 ⟨a1.1.toArray⟩ a2.1 a3.1 ⟨(pieceL a3.2).1.toArray⟩) SJ.out.nb (by simp [nmD]) rfl ?_)
      intro wk bk fk
      have SK := Lib.hid (SJ.out.put HGN.out bk fk)
      clear bk fk SJ
      go_wp2
      go_meet
      rw [← HA4.out]
      exact ⟨rfl, SK.out⟩
    case rest =>
     obtain ⟨rfl, hns⟩ := hcut
     clear ST
     have ST := Lib.hid hns
     clear hns
     generalize wc = wi at *
     have NBC : Hid (RD w wi gr gn nm.cells.toArray) := by have h := ST.out; rw [HNM.out]; exact h
     have ZO : Hid (nm.owner.size ≤ 16777216 ∧ nm.text.size ≤ 16777216) := by
      have e1 : nm.owner.size = a1.1.length := by rw [HNM.out, ← strL_length]; rfl
      have e2 : nm.text.size = a4.1.length := by rw [HNM.out, ← strL_length]; rfl
      have h1 := HZ.out.1
      have h2 := HZ.out.2.1
      simp only [Hid]
      omega
     have CE : Hid (∀ w', Calls Tryd.prog 102 #[.agg nm.cells.toArray] w' (REnc w' nm)) := fun w' => rNEnc_any nm w' ZO.out.1 ZO.out.2
     have B0 : Hid (Tryd.prog.built 40 [] = some (nmD 0 ByteArray.empty 0 0 ByteArray.empty)) := by simp only [Hid]; kernel_rfl
     clear ST CO CN CM CT CTK CPC hmd HA0 HA1 HA2 HA3 HA4 HNM ZO
     go_wp2_with (refine wpList_load_add rfl 40 (.tmp 4) rfl ⟨gn, 0, none⟩ rfl nm.cells _ ?hcc1 Tryd.underlying40 rfl infoN (Held.go ?hold1))
     case hcc1 => exact fun j x hx => by rw [Addr.add_mid, Nat.zero_add]; exact NBC.out.nb.cell j |>.trans (by rw [← List.getElem?_toArray] at hx; exact hx)
     unfold Held
     go_wp2_with fail
     refine (CE.out _).mono ?_
     rintro e w5 ⟨t, q, rfl, f5, hcase⟩
     have D5 := Lib.hid (NBC.out.far f5)
     have HC := Lib.hid hcase
     clear f5 hcase NBC CE
     obtain ⟨P, eP⟩ : ∃ z : Bool, (q != 0) = z := ⟨_, rfl⟩
     obtain ⟨Q, eQ⟩ : ∃ z : Bool, (t.toList == s.toList) = !z := ⟨!(t.toList == s.toList), by simp⟩
     obtain ⟨Z, eZ⟩ : ∃ z : Bool, a4.2.isEmpty = !z := ⟨!a4.2.isEmpty, by simp⟩
     obtain ⟨B1, hB1⟩ : ∃ z : Bool, (bif P then true else Q) = z := ⟨_, rfl⟩
     have HB1 := Lib.hid hB1
     clear hB1
     obtain ⟨B, hB⟩ : ∃ z : Bool, (bif B1 then true else Z) = z := ⟨_, rfl⟩
     have HB := Lib.hid hB
     clear hB
     have HB' : Hid (decide (okNm nm = true ∧ nameL nm = l ∧ a4.2 = []) = !B) := by
      rw [Hid, ← HB.out, ← HB1.out]
      have hz : decide (a4.2 = []) = !Z := by rw [← eZ]; cases a4.2 <;> simp
      rcases HC.out with ⟨h1, h2, h3⟩ | ⟨h1, h2⟩
      ·have hp : P = false := by rw [← eP, h2]; rfl
       have hts : decide (nameL nm = l) = !Q := by
        rw [← eQ, beqL, h3]
        by_cases e : nameL nm = l
        ·rw [decide_eq_true e, (beqB _ _).2]; rw [e]; exact HLS.out.1.symm
        ·rw [decide_eq_false e]
         exact (Bool.eq_false_iff.2 (fun h => e (by have h5 := (beqB _ _).1 h; rw [HLS.out.1] at h5; have h6 := congrArg (fun b : ByteArray => b.data.toList) h5; simpa using h6))).symm
       rw [hp, Bool.decide_and, Bool.decide_and, hts, hz, h1]
       cases Q <;> cases Z <;> rfl
      ·have hp : P = true := by rw [← eP, bne_iff_ne]; exact h2
       rw [hp, h1]
       simp
     go_upto_region 13 with fail
     refine wq_is 11 [.int .i64 q, .bool P, .bool P, bif P then undef else .string t, bif P then undef else .string s, bif P then undef else .bool Q, .bool B1, .bool B1, bif B1 then undef else .string ⟨a4.2.toArray⟩, bif B1 then undef else .bool Z, .bool B] rfl (by kernel_rfl) (by kernel_rfl) ?_ ?_
     ·refine ⟨?xb0, ?xb1, ?xb2, ?xb3, ?xb4, ?xb5, ?xb6, ?xb7, ?xb8, ?xb9, ?xb10, trivial⟩
      all_goals intro u w' hf hR
      all_goals simp only [List.take_succ_cons, List.take_zero, List.map_cons, List.map_nil, puts, Act.put, List.setIfInBounds_toArray, List.set_cons_zero, List.set_cons_succ, Nat.reduceAdd, Nat.zero_add]
      case' xb1 => simp only [show u 0 = _ from hR 0 (by kernel_rfl)]
      case' xb2 => simp only [show u 1 = _ from hR 1 (by kernel_rfl)]
      case' xb3 =>
       simp only [show u 2 = _ from hR 2 (by kernel_rfl)]
       cases P
       case true => exact skS (by kernel_rfl)
      case' xb4 =>
       simp only [show u 2 = _ from hR 2 (by kernel_rfl)]
       cases P
       case true => exact skS (by kernel_rfl)
      case' xb5 =>
       simp only [show u 3 = _ from hR 3 (by kernel_rfl), show u 4 = _ from hR 4 (by kernel_rfl), show u 2 = _ from hR 2 (by kernel_rfl)]
       cases P
       case true => exact skS (by kernel_rfl)
      case xb6 =>
       simp only [show u 2 = _ from hR 2 (by kernel_rfl), show u 5 = _ from hR 5 (by kernel_rfl)]
       cases P <;> exact .inl ⟨by kernel_rfl, by go_simp; exact ⟨by rw [← HB1.out]; rfl, Fr.refl _ _⟩⟩
      case' xb7 => simp only [show u 6 = _ from hR 6 (by kernel_rfl)]
      case' xb8 =>
       simp only [show u 7 = _ from hR 7 (by kernel_rfl)]
       cases B1
       case true => exact skS (by kernel_rfl)
      case' xb9 =>
       simp only [show u 8 = _ from hR 8 (by kernel_rfl), show u 7 = _ from hR 7 (by kernel_rfl)]
       cases B1
       case true => exact skS (by kernel_rfl)
      case xb10 =>
       simp only [show u 7 = _ from hR 7 (by kernel_rfl), show u 9 = _ from hR 9 (by kernel_rfl)]
       cases B1 <;> exact .inl ⟨by kernel_rfl, by go_simp; exact ⟨by rw [← HB.out]; rfl, Fr.refl _ _⟩⟩
      all_goals
       try simp only [cond]
       refine .inl ⟨by kernel_rfl, ?_⟩
       go_simp
       exact ⟨rfl, Fr.refl _ _⟩
     ·intro w' hf
      simp only [List.take_succ_cons, List.take_zero, List.map_cons, List.map_nil, puts, Act.put, List.setIfInBounds_toArray, List.set_cons_zero, List.set_cons_succ, List.drop_succ_cons, List.drop_zero, Nat.reduceAdd, Nat.zero_add, List.getD_cons_zero, List.getD_cons_succ]
      have D6 := Lib.hid (D5.out.far hf)
      clear hf D5 HC eP eQ eZ HB HB1
      have HB := Lib.hid HB'.out
      clear HB'
      cases hBB : B
      case true =>
       rw [hBB] at HB
       have HE : Hid (rdecN l = (nmZ, 3)) := by
        simp only [Hid]
        rw [HRD.out, if_neg (of_decide_eq_false HB.out)]
       clear hBB HB HRD
       go_wp2_with (refine wpList_storeBlk rfl 40 (.tmp 2) _ rfl gr (nmD 0 ByteArray.empty 0 0 ByteArray.empty) rfl rfl _ _ D6.out.rb infoNr5 rfl (by simp [nmD, Value.oneCell']) ?_)
       intro wz bz fz
       have JZ := Lib.hid bz
       have JF : Hid (Fr Nothing w wz) := D6.out.fr.then_ fz (fun i hi e => by have e' : i = gr := e; have := HGR; unfold Sz at this; omega)
       clear bz fz
       go_wp2
       refine bodyPost_ret (results_cell_slot (fn := Tryd.f71) (p := 2) (q := 3) (ty := 40) Tryd.results71 _ wz _ 40 (nmD 0 ByteArray.empty 0 0 ByteArray.empty) (0, 0) _ rfl JZ.out Tryd.underlying40 rfl infoNr5 _ rfl) rfl ⟨?_, JF.out⟩
       rw [HE.out]
       rfl
      case false =>
       rw [hBB] at HB
       have HE : Hid (rdecN l = (nm, 0)) := by
        simp only [Hid]
        rw [HRD.out, if_pos (of_decide_eq_true HB.out)]
       clear hBB HB HRD
       go_wp2_with (refine wpList_load_add rfl 40 (.tmp 4) rfl ⟨gn, 0, none⟩ rfl nm.cells _ ?hcc6 Tryd.underlying40 rfl infoN (Held.go ?hold6))
       case hcc6 => exact fun j x hx => by rw [Addr.add_mid, Nat.zero_add]; exact D6.out.nb.cell j |>.trans (by rw [← List.getElem?_toArray] at hx; exact hx)
       unfold Held
       refine wpList_storeBlk rfl 40 (.tmp 2) _ rfl gr nm.cells.toArray rfl rfl _ _ D6.out.rb infoNr5 rfl nm.one ?_
       intro wz bz fz
       have JZ := Lib.hid bz
       have JF : Hid (Fr Nothing w wz) := D6.out.fr.then_ fz (fun i hi e => by have e' : i = gr := e; have := HGR; unfold Sz at this; omega)
       clear bz fz
       go_wp2
       refine bodyPost_ret (results_cell_slot (fn := Tryd.f71) (p := 2) (q := 3) (ty := 40) Tryd.results71 _ wz _ 40 nm.cells.toArray (0, 0) _ rfl JZ.out Tryd.underlying40 rfl infoNr5 _ rfl) rfl ⟨?_, JF.out⟩
       rw [HE.out]
       rfl
end Go.Proofs.YtpnchdgplpdefaaDoor
