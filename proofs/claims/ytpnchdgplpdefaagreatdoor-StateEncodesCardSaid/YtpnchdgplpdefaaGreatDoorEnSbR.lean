/- StateApplies: the walk (written by genSbS.py). -/
import Derived.Test.YtpnchdgplpdefaaGreatDoorEnSbM
import Derived.Test.YtpnchdgplpdefaaGreatDoorEnSaH
import Derived.Test.YtpnchdgplpdefaaGreatDoorCards
import Derived.ChangeArms
import Derived.ProofKit
import Derived.LaidMore
import Derived.Lib.LaidTab
import Derived.RegionTactic
import Derived.OwnWalk
import Derived.Laws.Rows
import Derived.Deep.Slices
import Derived.OpenShut
namespace Go.Proofs.YtpnchdgplpdefaaGreatDoor
open Go.RowKit Go.Shelf
theorem bytesL_take {L : List Ent} {k : Nat} {x : Ent} (h : L[k]? = some x) : bytesL (L.take (k + 1)) = bytesL (L.take k) + x.2.size := by
 unfold bytesL
 rw [List.take_add_one, h, Option.toList_some, List.map_append, List.sum_append]
 simp
theorem bytesL_append (A B : List Ent) : bytesL (A ++ B) = bytesL A + bytesL B := by
 unfold bytesL
 rw [List.map_append, List.sum_append]
theorem bytesL_take_le (L : List Ent) (k : Nat) : bytesL (L.take k) ≤ bytesL L := by
 have h := bytesL_append (L.take k) (L.drop k)
 rw [List.take_append_drop] at h
 omega
theorem find_at {L : List Ent} {k : Nat} {x : Ent} (hs : SortL L) (h : L[k]? = some x) : findL x.1 L = some x.2 := by
 obtain ⟨hk, rfl⟩ := List.getElem?_eq_some_iff.1 h
 have e : L = L.take k ++ L[k] :: L.drop (k + 1) := by rw [← List.drop_eq_getElem_cons hk, List.take_append_drop]
 have hs2 := hs
 rw [e] at hs2
 obtain ⟨_, _, q, _⟩ := SortL.parts hs2
 have g := findL_gt (nm := L[k].1) (L.take k) (L[k] :: L.drop (k + 1)) (fun y hy => cmpN_pos (q y hy))
 rw [← e] at g
 rw [g, findL, if_pos (cmpN_is.refl _)]
def BInv (w : World) (L : List Ent) (N : Nat) (n i : Value) (wr : World) : Prop := ∃ k : Nat, k ≤ N ∧ n = .int .i64 (bytesL (L.take k) : Int) ∧ i = .int .i64 (k : Int) ∧ Fr Nothing w wr
set_option maxRecDepth 100000 in
set_option maxHeartbeats 4000000 in
theorem rBytes_any (L : List Ent) (A : Option Addr) (N c : Nat) (S : Nat → Prop) (w : World) (hL : EL w S A N L) (hN : N ≤ 1048576) (hB : bytesL L ≤ 1099511627776) :
  Calls Tryz.prog 42 #[.slice A N c] w (Same' w (.int .i64 (bytesL L : Int))) := by
 have HL := Lib.hid hL
 have HB := Lib.hid hB
 have HLE : Hid (L.length = N) := hL.len
 have HC0 : Hid (BInv w L N (.int .i64 0) (.int .i64 0) w) := ⟨0, by omega, rfl, rfl, Fr.refl _ _⟩
 clear hL hB
 go_enter Tryz.func42, Tryz.ntmps42
 go_wp2
 go_loopw [3, 4] (fun n i wr => BInv w L N n i wr) (fun _ i _ => N - (intOf i).toNat)
 case atStart => exact HC0.out
 case round =>
  obtain ⟨k, hk, rfl, rfl, hF⟩ := hrel
  have FR := Lib.hid hF
  clear hF HC0
  by_cases hlt : k < N
  ·have hI : (k : Int) < (N : Int) := by omega
   have hI0 : (0 : Int) ≤ (k : Int) := by omega
   have t0 : decide ((k : Int) < (N : Int)) = true := decide_eq_true hI
   obtain ⟨ad, x, rfl, hx, hc⟩ := (HL.out.fr0 FR.out).at_ hlt
   have HT := Lib.hid (bytesL_take hx)
   have HLE2 : Hid (bytesL (L.take (k + 1)) ≤ bytesL L) := bytesL_take_le L (k + 1)
   have cv : wr.cell? { block := (ad.add (k * 6)).block, off := (ad.add (k * 6)).off + 5 } = some (.string x.2) := hc 5 _ rfl
   have h2 : bytesL (L.take k) + x.2.size ≤ 1099511627776 := by have := HT.out; have := HLE2.out; have := HB.out; omega
   clear hc hx HLE2
   generalize bytesL (L.take k) = b0 at *
   go_wp2
   go_roundw
   case rel => exact ⟨k + 1, by omega, by rw [HT.out]; go_num, by go_num, FR.out⟩
   case measure => simp [intOf]; omega
  ·obtain rfl : k = N := by omega
   have t0 : decide ((k : Int) < (k : Int)) = false := decide_eq_false (by omega)
   have e : L.take k = L := List.take_of_length_le (by have := HLE.out; omega)
   rw [e]
   go_wp2
   go_ret
   exact ⟨rfl, FR.out⟩
def IInv (w : World) (N : Nat) (i : Value) (wr : World) : Prop := ∃ k : Nat, k ≤ N ∧ i = .int .i64 (k : Int) ∧ Fr Nothing w wr
set_option maxRecDepth 100000 in
set_option maxHeartbeats 4000000 in
theorem Is_any (L : List Ent) (s : Nat) (rv : Value) (w : World) (hS : StL w s L) (hR : RowE w rv L) (hG : GoodL L) (hN : ∀ x ∈ L, GoodN x.1) (hl : L.length ≤ 60000) :
  Calls Tryz.prog 12 #[.pointer (some ⟨s, 0, none⟩), rv] w (Same' w (.bool true)) := by
 obtain ⟨t, hst, htl⟩ := hS
 have hsz : t.size = L.length := by rw [← t.toL_length, htl]
 have hby : t.bytes = bytesL L := by rw [t.bytes_toL, htl]
 have hbb : bytesL L ≤ 1099511627776 := by have := hG.bytes; omega
 have CN : Hid (∀ w', Fr Nothing w w' → Calls Tryz.prog 41 #[.pointer (some ⟨s, 0, none⟩)] w' (fun r w'' => ∃ v, r = .returned v ∧ Grew 44 5 w' (.slice none 0 0) w'' v L.length (L.flatMap (fun x => x.1.cells)))) := fun w' f => by
  have h := Names_any s t w' (hst.fr0 f) (by omega)
  rw [htl, hsz] at h
  exact h
 have CL0 : Hid (∀ w', Fr Nothing w w' → Calls Tryz.prog 22 #[.pointer (some ⟨s, 0, none⟩)] w' (SameW w' (.int .i64 (L.length : Int)))) := fun w' f => by
  rw [← hsz]
  exact Len_any w' s t (hst.fr0 f)
 have CB : Hid (∀ w', Fr Nothing w w' → Calls Tryz.prog 39 #[.pointer (some ⟨s, 0, none⟩)] w' (SameW w' (.int .i64 (bytesL L : Int)))) := fun w' f => by
  rw [← hby]
  exact Bytes_any w' s t (hst.fr0 f)
 have CG : Hid (∀ (k : Nat) (x : Ent), L[k]? = some x → ∀ w', Fr Nothing w w' → Calls Tryz.prog 17 #[.pointer (some ⟨s, 0, none⟩), .agg x.1.cells.toArray] w' (Same' w' (.tuple #[.string x.2, .bool true]))) := fun k x hx w' f => by
  have h := Get_any L x.1 s w' ⟨t, hst.fr0 f, htl⟩ hG (hN x (List.mem_of_getElem? hx))
  rw [find_at hG.sort hx] at h
  exact h
 obtain ⟨A1, n1, c1, rfl, H1, _⟩ := own_slice hR
 have hn1 := H1.out
 subst hn1
 have EL1 : Hid (EL w (fun _ => True) A1 L.length L) := hR.el.2.1
 have CR : Hid (∀ w', Fr Nothing w w' → Calls Tryz.prog 42 #[.slice A1 L.length c1] w' (Same' w' (.int .i64 (bytesL L : Int)))) := fun w' f => rBytes_any L A1 _ c1 _ w' (EL1.out.fr0 f) (by omega) hbb
 have FL5 : Hid (∀ (k : Nat) (c : Ent), L[k]? = some c → ∀ j x, c.1.cells[j]? = some x → (L.flatMap (fun x => x.1.cells))[k * 5 + j]? = some x) := fun k c h j x hx => flat5 _ k c h j x hx
 have HBB := Lib.hid hbb
 have HLL := Lib.hid hl
 clear hst htl hsz hby hbb hR hG hN H1
 generalize bytesL L = BB at *
 generalize hNN : L.length = NN at *
 have hn6 : NN ≤ 60000 := HLL.out
 clear hNN hl
 have h6 : BB ≤ 1099511627776 := HBB.out
 go_enter Tryz.func12, Tryz.ntmps12
 go_wp2_with fail
 refine (CN.out _ (Fr.refl _ _)).mono ?_
 rintro e w7 ⟨v7, rfl, hG7⟩
 have F7 := Lib.hid hG7.fr0
 obtain ⟨A7, n7, c7, rfl, H7, _⟩ := own_slice hG7.own
 have hn7 := H7.out
 subst hn7
 have RD7 := Lib.hid (Rd.of_own hG7.own).any
 have HC0 : Hid (IInv w7 n7 (.int .i64 0) w7) := ⟨0, by omega, rfl, Fr.refl _ _⟩
 clear hG7 H7
 go_wp2_with fail
 refine (CL0.out _ F7.out).mono ?_
 rintro e w8 ⟨rfl, rfl⟩
 go_wp2_with fail
 refine (CB.out _ F7.out).mono ?_
 rintro e w8 ⟨rfl, rfl⟩
 go_wp2_with fail
 refine (CR.out _ F7.out).mono ?_
 rintro e w8 ⟨rfl, f8⟩
 have F78 := Lib.hid f8
 clear f8
 have HC8 : Hid (IInv w7 n7 (.int .i64 0) w8) := ⟨0, by omega, rfl, F78.out⟩
 go_wp2
 go_loopw [6] (fun i wr => IInv w7 n7 i wr) (fun i _ => n7 - (intOf i).toNat)
 case atStart => exact HC8.out
 case round =>
  obtain ⟨j, hj, rfl, hF⟩ := hrel
  have FR := Lib.hid hF
  clear hF HC0 HC8
  by_cases hlt : j < n7
  ·have hI : (j : Int) < (n7 : Int) := by omega
   have hI0 : (0 : Int) ≤ (j : Int) := by omega
   have t0 : decide ((j : Int) < (n7 : Int)) = true := decide_eq_true hI
   obtain ⟨ad, x, rfl, hx, hc⟩ := (EL1.out.fr0 (F7.out.trans FR.out)).at_ hlt
   have HX := Lib.hid hx
   have HC := Lib.hid hc
   clear hc hx
   obtain ⟨a7, rfl, _, hc7⟩ := RD7.out.2 (by omega)
   have C7 : Hid (∀ jj v, x.1.cells[jj]? = some v → wr.cell? ((a7.add (j * 5)).add jj) = some v) := fun jj v hv => by
    have h := FR.out.cellSome (hc7 (j * 5 + jj) v (FL5.out j x HX.out jj v hv)) (fun x => x)
    rw [add_of_add]; exact h
   clear hc7
   go_wp2_with (refine wpList_load_add rfl 44 (.tmp 40) rfl (a7.add (j * 5)) rfl x.1.cells _ ?hcc1 Tryz.underlying44 rfl infoName (Held.go ?hold1))
   case hcc1 => exact fun j x hx => C7.out j x hx
   unfold Held
   go_wp2_with fail
   refine (CG.out j x HX.out _ (F7.out.trans FR.out)).mono ?_
   rintro e w9 ⟨rfl, f9⟩
   have FR9 := Lib.hid (FR.out.trans f9)
   have HC9 : Hid (∀ jj v, (entC x)[jj]? = some v → w9.cell? ((ad.add (j * 6)).add jj) = some v) := fun jj v hv => f9.cellSome (HC.out jj v hv) (fun x => x)
   have C79 : Hid (∀ jj v, x.1.cells[jj]? = some v → w9.cell? ((a7.add (j * 5)).add jj) = some v) := fun jj v hv => f9.cellSome (C7.out jj v hv) (fun x => x)
   clear f9 HC C7 FR
   go_upto_region 8 with fail
   refine wp_region_st 24 Nothing [Is (.slice (some a7) n7 c7), Is (.int .i64 (j : Int)), Is (.pointer (some (a7.add (j * 5)))), Is (.agg x.1.cells.toArray), Is (.agg x.1.cells.toArray), Is (.slice (some ad) n7 c1), Is (.int .i64 (j : Int)), Is (.pointer (some (ad.add (j * 6)))), Is (.pointer (some (ad.add (j * 6)))), Is (.agg x.1.cells.toArray), Is (.bool false), Is (.bool false), Is (.bool true), Is (.bool false), Is (.bool false), Is (.bool false), Is (.string x.2), Is (.slice (some ad) n7 c1), Is (.int .i64 (j : Int)), Is (.pointer (some (ad.add (j * 6)))), Is (.pointer (some { block := (ad.add (j * 6)).block, off := (ad.add (j * 6)).off + 5 })), Is (.string x.2), Is (.bool false), Is (.bool false)] [] (fun _ => True) (fun _ _ => false) (by kernel_rfl) (by kernel_rfl) (by kernel_rfl) (by kernel_rfl) ⟨Is.stable _, Is.stable _, Is.stable _, Is.stable _, Is.stable _, Is.stable _, Is.stable _, Is.stable _, Is.stable _, Is.stable _, Is.stable _, Is.stable _, Is.stable _, Is.stable _, Is.stable _, Is.stable _, Is.stable _, Is.stable _, Is.stable _, Is.stable _, Is.stable _, Is.stable _, Is.stable _, Is.stable _, trivial⟩ trivial (fun _ _ _ _ h => h) trivial ?_ ?_
   ·refine ⟨?a11_0, ?a11_1, ?a11_2, ?a11_3, ?a11_4, ?a11_5, ?a11_6, ?a11_7, ?a11_8, ?a11_9, ?a11_10, ?a11_11, ?a11_12, ?a11_13, ?a11_14, ?a11_15, ?a11_16, ?a11_17, ?a11_18, ?a11_19, ?a11_20, ?a11_21, ?a11_22, ?a11_23, trivial⟩
    all_goals intro u w' d hf hR k1 k0 kM
    all_goals simp only [List.take_succ_cons, List.take_zero, List.map_cons, List.map_nil, puts, Act.put, List.setIfInBounds_toArray, List.set_cons_zero, List.set_cons_succ, Nat.reduceAdd, Nat.zero_add]
    case' a11_2 => simp only [show u 0 = _ from hR 0 (by kernel_rfl), show u 1 = _ from hR 1 (by kernel_rfl)]
    case a11_3 =>
     simp only [show u 2 = _ from hR 2 (by kernel_rfl)]
     clear hR k1 k0 kM
     refine .inl ⟨by kernel_rfl, ?_⟩
     exact wp_load_add _ _ rfl (a7.add (j * 5)) rfl x.1.cells _ (fun jj v hv => hf.cellSome (C79.out jj v hv) (fun x => x)) Tryz.underlying44 rfl infoName ⟨_, rfl, Fr.refl _ _, rfl, trivial⟩
    case a11_4 =>
     simp only [show u 3 = _ from hR 3 (by kernel_rfl)]
     clear hR k1 k0 kM
     refine .inl ⟨by kernel_rfl, ?_⟩
     go_simp
     refine (Of4_any x.1 _).mono ?_
     rintro e w4 ⟨rfl, f4⟩
     exact ⟨_, rfl, f4.weak, rfl, trivial⟩
    case' a11_7 => simp only [show u 5 = _ from hR 5 (by kernel_rfl), show u 6 = _ from hR 6 (by kernel_rfl)]
    case' a11_8 => simp only [show u 7 = _ from hR 7 (by kernel_rfl)]
    case a11_9 =>
     simp only [show u 8 = _ from hR 8 (by kernel_rfl)]
     clear hR k1 k0 kM
     refine .inl ⟨by kernel_rfl, ?_⟩
     exact wp_load_add _ _ rfl (ad.add (j * 6)) rfl x.1.cells _ (fun jj v hv => hf.cellSome (HC9.out jj v (by rw [entC, List.getElem?_append_left (List.getElem?_eq_some_iff.1 hv).1]; exact hv)) (fun x => x)) Tryz.underlying57 rfl infoN ⟨_, rfl, Fr.refl _ _, rfl, trivial⟩
    case a11_10 =>
     simp only [show u 4 = _ from hR 4 (by kernel_rfl), show u 9 = _ from hR 9 (by kernel_rfl)]
     clear hR k1 k0 kM
     refine .inl ⟨by kernel_rfl, ?_⟩
     exact wp_binAgg _ _ _ _ _ rfl _ _ rfl rfl Tryz.eqGuardType57 _ (neqN_same x.1 _) ⟨_, rfl, Fr.refl _ _, rfl, trivial⟩
    case' a11_11 => simp only [show u 10 = _ from hR 10 (by kernel_rfl)]
    case' a11_12 => simp only [show u 11 = _ from hR 11 (by kernel_rfl)]
    case' a11_13 => simp only [show u 12 = _ from hR 12 (by kernel_rfl), show u 11 = _ from hR 11 (by kernel_rfl)]
    case' a11_14 => simp only [show u 11 = _ from hR 11 (by kernel_rfl), show u 13 = _ from hR 13 (by kernel_rfl)]
    case' a11_15 => simp only [show u 14 = _ from hR 14 (by kernel_rfl)]
    case' a11_16 => simp only [show u 15 = _ from hR 15 (by kernel_rfl)]
    case' a11_17 => simp only [show u 15 = _ from hR 15 (by kernel_rfl)]
    case' a11_18 => simp only [show u 15 = _ from hR 15 (by kernel_rfl)]
    case' a11_19 => simp only [show u 17 = _ from hR 17 (by kernel_rfl), show u 18 = _ from hR 18 (by kernel_rfl), show u 15 = _ from hR 15 (by kernel_rfl)]
    case' a11_20 => simp only [show u 19 = _ from hR 19 (by kernel_rfl), show u 15 = _ from hR 15 (by kernel_rfl)]
    case a11_21 =>
     simp only [show u 20 = _ from hR 20 (by kernel_rfl), show u 15 = _ from hR 15 (by kernel_rfl)]
     clear hR k1 k0 kM
     refine .inl ⟨by kernel_rfl, ?_⟩
     have q : _ = some (Value.string x.2) := hf.cellSome (show w9.cell? { block := (ad.add (j * 6)).block, off := (ad.add (j * 6)).off + 5 } = some (.string x.2) from HC9.out 5 _ rfl) (fun x => x)
     go_simp
     exact ⟨_, rfl, Fr.refl _ _, rfl, trivial⟩
    case' a11_22 => simp only [show u 16 = _ from hR 16 (by kernel_rfl), show u 21 = _ from hR 21 (by kernel_rfl), show u 15 = _ from hR 15 (by kernel_rfl)]
    case' a11_23 => simp only [show u 15 = _ from hR 15 (by kernel_rfl), show u 22 = _ from hR 22 (by kernel_rfl)]
    all_goals
     clear hR k1 k0 kM
     refine .inl ⟨by kernel_rfl, ?_⟩
     go_simp
     exact ⟨_, rfl, Fr.refl _ _, rfl, trivial⟩
   ·intro u w' hf hR kM
    have k23 : u 23 = _ := hR 23 (by omega)
    clear hR kM
    simp only [List.take_succ_cons, List.take_zero, List.map_cons, List.map_nil, puts, Act.put, List.setIfInBounds_toArray, List.set_cons_zero, List.set_cons_succ, List.drop_succ_cons, List.drop_zero, Nat.reduceAdd, Nat.zero_add, k23]
    have FX := Lib.hid (FR9.out.trans hf)
    clear hf k23
    go_wp2
    go_roundw
    case rel => exact ⟨j + 1, by omega, by go_num, FX.out⟩
    case measure => simp [intOf]; omega
  ·obtain rfl : j = n7 := by omega
   have t0 : decide ((j : Int) < (j : Int)) = false := decide_eq_false (by omega)
   go_wp2
   go_ret
   exact ⟨rfl, F7.out.trans FR.out⟩
end Go.Proofs.YtpnchdgplpdefaaGreatDoor
namespace Go.Proofs.YtpnchdgplpdefaaGreatDoor
open Go.ChangeShapes Go.WideShapes Go.ChangeAt Go.RowKit
theorem cellsInt : Tryz.prog.cellsOf 3 = 1 := by kernel_rfl
theorem cellsStr : Tryz.prog.cellsOf 9 = 1 := by kernel_rfl
theorem cellsBool : Tryz.prog.cellsOf 4 = 1 := by kernel_rfl
theorem cellsNm : Tryz.prog.cellsOf 57 = 5 := by kernel_rfl
theorem cellsC : Tryz.prog.cellsOf 59 = 7 := by kernel_rfl
theorem cellsUsa : Tryz.prog.cellsOf 112 = 6 := by kernel_rfl
theorem cellsUsas : Tryz.prog.cellsOf 113 = 126 := by kernel_rfl
theorem g_usages : Tryz.prog.globalNamed "replevin/object.usages" = some 0 := by kernel_rfl
theorem ty_usages : (Tryz.prog.globals[0]?).map (·.type) = some 113 := by kernel_rfl
def Usa.datum {H : Type} (u : Usa) : DataW H := .agg [.lit (.string u.word.data.toList), .lit (.bool u.owner), .lit (.bool u.number), .lit (.bool u.index), .lit (.bool u.text), .lit (.int .i64 u.most)]
set_option maxRecDepth 100000 in
theorem usa_laid : (Rows.laid_replevin_object_usages : DataW Unit) = .agg (usaL.map Usa.datum) := by kernel_rfl
set_option maxRecDepth 100000 in
theorem open_usa {H : Type} {enc : TypeId × Value → H} {w : World} {base : Nat} {sp : Nat → Bool} {held : Bool} {fuel : Nat} {l : List Value} {u : Usa} {x : DataW H × List MemPlace} (hx : x.1 = u.datum)
  (h : DataW.trod enc Tryz.prog w base sp held fuel 112 l = some x) : l = u.cells := by
 obtain ⟨ys, n', _, rfl, hcl, hyl, hf⟩ := DataW.trod_struct Tryz.underlying112 h
 rw [cellsUsa] at hcl
 match l, hcl with
 | [x0, x1, x2, x3, x4, x5], _ =>
  have g0 := hf 0 _ rfl
  have g1 := hf 1 _ rfl
  have g2 := hf 2 _ rfl
  have g3 := hf 3 _ rfl
  have g4 := hf 4 _ rfl
  have g5 := hf 5 _ rfl
  match ys, hyl with
  | [y0, y1, y2, y3, y4, y5], _ =>
   simp [cellsInt, cellsStr, cellsBool] at g0 g1 g2 g3 g4 g5
   obtain ⟨a0, e0, rfl, _⟩ := DataW.trod_string Tryz.underlying9 g0
   obtain ⟨a1, e1, rfl⟩ := DataW.trod_bool Tryz.underlying4 g1
   obtain ⟨a2, e2, rfl⟩ := DataW.trod_bool Tryz.underlying4 g2
   obtain ⟨a3, e3, rfl⟩ := DataW.trod_bool Tryz.underlying4 g3
   obtain ⟨a4, e4, rfl⟩ := DataW.trod_bool Tryz.underlying4 g4
   obtain ⟨a5, e5, rfl, _⟩ := DataW.trod_int Tryz.underlying3 g5
   simp only [List.cons.injEq, and_true] at e0 e1 e2 e3 e4 e5
   subst e0 e1 e2 e3 e4 e5
   simp only [Usa.datum, List.map_cons, List.map_nil, DataW.agg.injEq, List.cons.injEq, DataW.lit.injEq, Lit.string.injEq, Lit.bool.injEq, Lit.int.injEq, and_true, true_and] at hx
   obtain ⟨h0, h1, h2, h3, h4, h5⟩ := hx
   have hw : a0 = u.word := by
    cases a0
    cases hu : u.word
    rw [hu] at h0
    simpa [Array.toList_inj] using h0
   rw [Usa.cells, hw, h1, h2, h3, h4, h5]
theorem usa_of {W : World} {rest : List (String × DataW Unit)} (h : laidMet Tryz.prog (("replevin/object.usages", Rows.laid_replevin_object_usages) :: rest) W) : UsaT W := by
 obtain ⟨ps, ⟨g', t', cs, fuel, p, q, hg', ht', hvar, hd, _, _⟩, _⟩ := h
 obtain rfl := Option.some.inj (g_usages.symm.trans hg')
 obtain rfl := Option.some.inj (ty_usages.symm.trans ht')
 obtain ⟨xs, m, _, hx, hl, hxl, hi⟩ := DataW.trod_array Tryz.underlying113 hd
 rw [cellsUsas] at hl
 refine ⟨fun k u hk j v hv => ?_⟩
 have hk' : k < 21 := by
  have := (List.getElem?_eq_some_iff.1 hk).1
  simpa [usaL] using this
 have g := hi k hk'
 rw [cellsUsa, List.getElem?_eq_getElem (by omega)] at g
 have hdat : (xs[k]).1 = u.datum := by
  rw [usa_laid] at hx
  simp only [Prod.mk.injEq, DataW.agg.injEq] at hx
  have h2 := congrArg (·[k]?) hx.1
  simp only [List.getElem?_map, hk, Option.map_some, List.getElem?_eq_getElem (show k < xs.length by omega), Option.some.injEq] at h2
  exact h2.symm
 have hc := open_usa hdat g
 have hj : j < 6 := by
  have := (List.getElem?_eq_some_iff.1 hv).1
  simpa [Usa.cells] using this
 refine World.var?_cell g_usages hvar (k * 6 + j) |>.trans ?_
 rw [← hc, List.getElem?_take_of_lt hj, List.getElem?_drop] at hv
 simpa using hv
end Go.Proofs.YtpnchdgplpdefaaGreatDoor
namespace Go.Proofs.YtpnchdgplpdefaaGreatDoor
open Go.ChangeShapes Go.WideShapes Go.ChangeAt Go.RowKit Go.Deep
def initI : List Int := [1779033703, 3144134277, 1013904242, 2773480762, 1359893119, 2600822924, 528734635, 1541459225]
def kInt : List Int := kTab.map (fun n : Nat => (n : Int))
structure NameV.good (n : NameV) : Prop where
 kind : -9223372036854775808 ≤ n.kind ∧ n.kind ≤ 9223372036854775807
 number : -9223372036854775808 ≤ n.number ∧ n.number ≤ 9223372036854775807
 index : -9223372036854775808 ≤ n.index ∧ n.index ≤ 9223372036854775807
 owner : n.owner.size ≤ 9223372036854775807
 text : n.text.size ≤ 9223372036854775807
structure CV.good (c : CV) : Prop where
 nm : c.nm.good
 value : c.value.size ≤ 9223372036854775807
set_option maxRecDepth 100000 in
theorem open_name {H : Type} {enc : TypeId × Value → H} {w : World} {base : Nat} {sp : Nat → Bool} {held : Bool} {fuel : Nat} {l : List Value} {x : DataW H × List MemPlace}
  (h : DataW.trod enc Tryz.prog w base sp held fuel 57 l = some x) : ∃ n : NameV, n.good ∧ l = n.cells := by
 obtain ⟨ys, n', _, rfl, hcl, hyl, hf⟩ := DataW.trod_struct Tryz.underlying57 h
 rw [cellsNm] at hcl
 match l, hcl with
 | [x0, x1, x2, x3, x4], _ =>
  have g0 := hf 0 _ rfl
  have g1 := hf 1 _ rfl
  have g2 := hf 2 _ rfl
  have g3 := hf 3 _ rfl
  have g4 := hf 4 _ rfl
  match ys, hyl with
  | [y0, y1, y2, y3, y4], _ =>
   simp [cellsInt, cellsStr] at g0 g1 g2 g3 g4
   obtain ⟨a0, e0, rfl, b0⟩ := DataW.trod_int Tryz.underlying3 g0
   obtain ⟨a1, e1, rfl, b1⟩ := DataW.trod_string Tryz.underlying9 g1
   obtain ⟨a2, e2, rfl, b2⟩ := DataW.trod_int Tryz.underlying3 g2
   obtain ⟨a3, e3, rfl, b3⟩ := DataW.trod_int Tryz.underlying3 g3
   obtain ⟨a4, e4, rfl, b4⟩ := DataW.trod_string Tryz.underlying9 g4
   simp only [List.cons.injEq, and_true] at e0 e1 e2 e3 e4
   subst e0 e1 e2 e3 e4
   have r0 := bounds_i64 b0
   have r2 := bounds_i64 b2
   have r3 := bounds_i64 b3
   unfold maxLen at b1 b4
   exact ⟨⟨a0, a1, a2, a3, a4⟩, ⟨⟨r0.1, r0.2⟩, ⟨r2.1, r2.2⟩, ⟨r3.1, r3.2⟩, b1, b4⟩, rfl⟩
set_option maxRecDepth 100000 in
theorem open_c {H : Type} {enc : TypeId × Value → H} {w : World} {base : Nat} {sp : Nat → Bool} {held : Bool} {fuel : Nat} {l : List Value} {x : DataW H × List MemPlace}
  (h : DataW.trod enc Tryz.prog w base sp held fuel 59 l = some x) : ∃ c : CV, c.good ∧ l = c.cells := by
 obtain ⟨ys, n', _, rfl, hcl, hyl, hf⟩ := DataW.trod_struct Tryz.underlying59 h
 rw [cellsC] at hcl
 match l, hcl with
 | [x0, x1, x2, x3, x4, x5, x6], _ =>
  have g0 := hf 0 _ rfl
  have g1 := hf 1 _ rfl
  have g2 := hf 2 _ rfl
  match ys, hyl with
  | [y0, y1, y2], _ =>
   simp [cellsNm, cellsStr, cellsBool] at g0 g1 g2
   obtain ⟨n, hn, e0⟩ := open_name g0
   obtain ⟨a1, e1, rfl, b1⟩ := DataW.trod_string Tryz.underlying9 g1
   obtain ⟨a2, e2, rfl⟩ := DataW.trod_bool Tryz.underlying4 g2
   simp only [List.cons.injEq, and_true] at e1 e2
   subst e1 e2
   unfold maxLen at b1
   refine ⟨⟨n, a1, a2⟩, ⟨hn, b1⟩, ?_⟩
   rw [CV.cells, ← e0]
   rfl
theorem open_cl {H : Type} {enc : TypeId × Value → H} {w : World} {fuel : Nat} {a : Option Addr} {len cap : Nat} {x : DataW H × List MemPlace}
  (h : DataW.trod enc Tryz.prog w 0 (fun _ => true) true fuel 22 [.slice a len cap] = some x) :
  ∃ cs : List CV, CL w (Old w) a len cs ∧ (∀ c ∈ cs, c.good) ∧ len ≤ cap ∧ cap ≤ 9223372036854775807 := by
 rcases open_slice Tryz.underlying22 h with ⟨hcs, _⟩ | ⟨ad, l', c', m, n, D, Pl, hcs, _, hl, hm, hmm, _, hi⟩
 ·simp only [List.cons.injEq, Value.slice.injEq, and_true] at hcs
  obtain ⟨rfl, rfl, rfl⟩ := hcs
  exact ⟨[], ⟨Rd.none_, rfl⟩, by simp, Nat.le_refl _, Nat.zero_le _⟩
 ·simp only [List.cons.injEq, Value.slice.injEq, and_true] at hcs
  obtain ⟨rfl, rfl, rfl⟩ := hcs
  simp only [if_true] at hmm
  rw [cellsC] at hi
  have hel : ∀ i, i < len → ∃ c : CV, c.good ∧ ∀ j u, c.cells[j]? = some u → w.cell? ((ad.add (i * 7)).add j) = some u := by
   intro i hil
   obtain ⟨cs', hc, ht'⟩ := hi i (by omega)
   obtain ⟨c, hg, hcc⟩ := open_c ht'
   obtain ⟨_, hcl, hat⟩ := World.cells?_some hc
   refine ⟨c, hg, fun j u hu => ?_⟩
   have hj : j < 7 := by
    have := (List.getElem?_eq_some_iff.1 hu).1
    simpa [CV.cells, NameV.cells] using this
   rw [hat j hj, ← hu, ← hcc]
  obtain ⟨l, h1, h2, h3⟩ := rd_of_elems CV.cells 7 CV.good (fun c => c.cells_length) (by omega) hel
  exact ⟨l, ⟨h3, h1⟩, h2, hl, by unfold maxLen at hm; exact hm⟩
end Go.Proofs.YtpnchdgplpdefaaGreatDoor
namespace Go.Proofs.YtpnchdgplpdefaaGreatDoor
open Go.RowKit Go.Shelf
theorem GoodK.names {k : Nat} {L : List Ent} (h : GoodK k L) : ∀ x ∈ L, GoodN x.1 := fun x hx => ⟨by have := h.owner x hx; omega, by have := h.text x hx; omega⟩
theorem Is_good (k : Nat) (L : List Ent) (s : Nat) (rv : Value) (w : World) (hS : StL w s L) (hR : RowE w rv L) (hG : GoodK k L) (hk : k ≤ 60000) :
  Calls Tryz.prog 12 #[.pointer (some ⟨s, 0, none⟩), rv] w (Same' w (.bool true)) := Is_any L s rv w hS hR (hG.good hk) hG.names (by have := hG.len; omega)
structure ToR (w : World) (N : Nat) (ys : List CV) (v4 v5 : Value) : Prop where
 own4 : w.ownsRow 0 55 7 v4 N (ys.flatMap CV.cells)
 own5 : w.ownsRow 0 59 7 v5 N (ys.flatMap CV.cells)
 len : ys.length = N
theorem ToR.fr0 {w w' : World} {N : Nat} {ys : List CV} {v4 v5 : Value} (h : ToR w N ys v4 v5) (hf : Fr Nothing w w') : ToR w' N ys v4 v5 := ⟨own_fr h.own4 hf (fun _ _ x => x), own_fr h.own5 hf (fun _ _ x => x), h.len⟩
theorem ToR.row {w w' : World} {N : Nat} {ys : List CV} {v4 v5 v : Value} {e : TypeId} {size n : Nat} {xs : List Value} (h : ToR w N ys v4 v5) (ho : w.ownsRow 0 e size v n xs) (hf : Fr (Rows1 v) w w') (h1 : e ≠ 55) (h2 : e ≠ 59) : ToR w' N ys v4 v5 :=
 ⟨own_fr h.own4 hf (fun g hk hr => own_types ho h.own4 h1 g hr hk), own_fr h.own5 hf (fun g hk hr => own_types ho h.own5 h2 g hr hk), h.len⟩
end Go.Proofs.YtpnchdgplpdefaaGreatDoor
