/- State: what a law's arguments are. -/
import Derived.Test.YtpnchdgplpdefaaDoorDeSct
import Derived.Test.YtpnchdgplpdefaaDoorDeSaF
import Derived.Test.YtpnchdgplpdefaaDoorCards
import Derived.ChangeArms
import Derived.ProofKit
import Derived.LaidMore
import Derived.Lib.LaidTab
import Derived.RegionTactic
import Derived.OwnWalk
import Derived.Laws.Rows
import Derived.Deep.Slices
import Derived.OpenShut
namespace Go.Proofs.YtpnchdgplpdefaaDoor
open Go.RowKit Go.Shelf
def headSr (P : Program) (ops : Array Oper) (Q : Exit → Act → World → Prop) (T : Nat → Prop) (w : World) (F : (Nat → Value) → Act) (R : Nat → Value → World → Prop) (ws : List (Nat × (World → Prop))) (M0 : World → Prop) (B : Nat → Nat → Bool) (n : Nat) (I : List (Nat × Value)) : Nat → List Oper → Prop
 | _, [] => True
 | i, o :: r => (∀ u w' d, Fr T w w' → (∀ j, Region.waitsFor .any ops i j = true → R j (u j) w') → (∀ p, p < n → B p i = true → d p = true) → (∀ p, (p == i || B i p) = true → d p = false) → stage ws M0 d w' → (∀ x ∈ I, d x.1 = false → u x.1 = x.2) →
   wpW P ops Q o (F u) w' (OneSt (F u) o.dst (turnedW ws T i) w' (R i) (afterW ws i))) ∧ headSr P ops Q T w F R ws M0 B n I (i + 1) r
theorem headSr.at_ {P : Program} {ops : Array Oper} {Q : Exit → Act → World → Prop} {T : Nat → Prop} {w : World} {F : (Nat → Value) → Act} {R : Nat → Value → World → Prop} {ws : List (Nat × (World → Prop))} {M0 : World → Prop} {B : Nat → Nat → Bool} {n : Nat} {I : List (Nat × Value)} :
  ∀ {l : List Oper} {k : Nat}, headSr P ops Q T w F R ws M0 B n I k l → ∀ i o, l[i]? = some o → ∀ u w' d, Fr T w w' → (∀ j, Region.waitsFor .any ops (k + i) j = true → R j (u j) w') → (∀ p, p < n → B p (k + i) = true → d p = true) → (∀ p, (p == k + i || B (k + i) p) = true → d p = false) → stage ws M0 d w' → (∀ x ∈ I, d x.1 = false → u x.1 = x.2) →
   wpW P ops Q o (F u) w' (OneSt (F u) o.dst (turnedW ws T (k + i)) w' (R (k + i)) (afterW ws (k + i)))
 | [], _, _, _, _, h => by simp at h
 | o' :: r, k, h, 0, o, ho => by
  have : o' = o := by simpa using ho
  subst this
  exact h.1
 | o' :: r, k, h, i + 1, o, ho => by
  have := headSr.at_ h.2 i o (by simpa using ho)
  rw [show k + 1 + i = k + (i + 1) by omega] at this
  exact this
end Go.Proofs.YtpnchdgplpdefaaDoor
namespace Go.Proofs.YtpnchdgplpdefaaDoor
open Go.RowKit Go.Shelf
def OneV (c : CV) (L : List Ent) (v : Value) (w : World) : Prop := ∃ s' rv', v = .tuple #[.pointer (some ⟨s', 0, none⟩), rv', .bool true] ∧ StL w s' (stepC c L) ∧ RowE w rv' (stepC c L)
theorem OneV.fr0 {c : CV} {L : List Ent} {v : Value} {w w' : World} (h : OneV c L v w) (hf : Fr Nothing w w') : OneV c L v w' := by
 obtain ⟨s, r, e, h1, h2⟩ := h
 exact ⟨s, r, e, h1.fr0 hf, h2.fr0 hf⟩
def SV (c : CV) (L : List Ent) (v : Value) (w : World) : Prop := ∃ s', v = .pointer (some ⟨s', 0, none⟩) ∧ StL w s' (stepC c L)
theorem SV.fr0 {c : CV} {L : List Ent} {v : Value} {w w' : World} (h : SV c L v w) (hf : Fr Nothing w w') : SV c L v w' := by
 obtain ⟨s, e, h1⟩ := h
 exact ⟨s, e, h1.fr0 hf⟩
end Go.Proofs.YtpnchdgplpdefaaDoor
namespace Go.Proofs.YtpnchdgplpdefaaDoor
open Go.RowKit Go.Shelf
theorem builtNref (n : NameV) : Tryd.prog.built 40 [(0, .int .i64 n.kind), (1, .string n.owner), (2, .int .i64 n.number), (3, .int .i64 n.index), (4, .string n.text)] = some n.cells.toArray := by kernel_rfl
theorem zvNref (w : World) : (zeroValue 40).run Tryd.prog w = .ok nameZ w := by kernel_rfl
set_option maxRecDepth 100000 in
set_option maxHeartbeats 4000000 in
theorem Of4_any (n : NameV) (w : World) : Calls Tryd.prog 22 #[.agg n.cells.toArray] w (Same' w (.agg n.cells.toArray)) := by
 have B := Lib.hid (builtNref n)
 have O := Lib.hid n.one
 have I : Hid ((Tryd.prog.info? 40).map (·.size) = some n.cells.toArray.size) := infoN
 have Z : Hid ((#[.int .i64 0, .string ByteArray.empty, .int .i64 0, .int .i64 0, .string ByteArray.empty] : Array Value).size = n.cells.toArray.size) := rfl
 go_enter Tryd.func22, Tryd.ntmps22
 go_wp2_with (refine wpList_boxBlk rfl 36 (.tmp 0) rfl n.cells.toArray rfl ?_)
 intro w1 n1
 have F1 := Lib.hid n1.fr
 have NB := Lib.hid n1.blk
 clear n1
 generalize w.heap.size = gb at *
 go_wp2_with (refine wpList_allocBlk rfl 40 rfl nameZ zvNref #[.int .i64 0, .string ByteArray.empty, .int .i64 0, .int .i64 0, .string ByteArray.empty] rfl ?_)
 intro w2 n2
 have N2 := Lib.hid n2
 clear n2
 have F2 := Lib.hid (F1.out.trans N2.out.fr)
 have NB2 := Lib.hid (NB.out.fr N2.out.fr (fun x => x))
 generalize hgr : w1.heap.size = gr at *
 have HGR := Lib.hid hgr
 clear hgr
 have R2 : Hid (Blk w2 gr 40 #[.int .i64 0, .string ByteArray.empty, .int .i64 0, .int .i64 0, .string ByteArray.empty]) := by have h := N2.out.blk; rw [HGR.out] at h; exact h
 have c0 : w2.cell? ⟨gb, 0, none⟩ = some (.int .i64 n.kind) := NB2.out.cell 0
 have c1 : w2.cell? ⟨gb, 1, none⟩ = some (.string n.owner) := NB2.out.cell 1
 have c2 : w2.cell? ⟨gb, 2, none⟩ = some (.int .i64 n.number) := NB2.out.cell 2
 have c3 : w2.cell? ⟨gb, 3, none⟩ = some (.int .i64 n.index) := NB2.out.cell 3
 have c4 : w2.cell? ⟨gb, 4, none⟩ = some (.string n.text) := NB2.out.cell 4
 clear NB
 go_wp2_with (refine wpList_built rfl 40 _ rfl n.cells.toArray _ (by simp only [List.map_toArray, List.map_cons, List.map_nil]; rfl) B.out (Held.go ?hold))
 unfold Held
 refine wpList_storeBlk rfl 40 (.tmp 2) _ rfl gr n.cells.toArray rfl rfl _ _ R2.out I.out Z.out O.out ?_
 intro wz b5 f5
 have J4 := Lib.hid b5
 have JF : Hid (Fr Nothing w wz) := F2.out.then_ f5 (fun i hi e => by have e' : i = gr := e; have q1 := HGR.out; have q2 := F1.out.size; omega)
 clear b5 f5 N2 NB2 R2 HGR c0 c1 c2 c3 c4
 go_wp2
 exact bodyPost_ret (results_cell_row (fn := Tryd.f22) (p := 2) (ty := 40) Tryd.results22 _ wz _ 40 n.cells.toArray (0, 0) _ rfl J4.out Tryd.underlying40 rfl I.out) rfl ⟨rfl, JF.out⟩
set_option maxRecDepth 100000 in
theorem neqN_same (a : NameV) (w : World) : (binOp .neq 40 (.agg a.cells.toArray) (.agg a.cells.toArray)).run Tryd.prog w = .ok (.bool false) w := by
 obtain ⟨k, o, n, i, t⟩ := a
 simp only [NameV.cells]
 go_simp
theorem flat5 : ∀ (xs : List Ent) (k : Nat) (c : Ent), xs[k]? = some c → ∀ j x, c.1.cells[j]? = some x → (xs.flatMap (fun x => x.1.cells))[k * 5 + j]? = some x
 | [], _, _, h, _, _, _ => by simp at h
 | y :: ys, 0, c, h, j, x, hx => by
  simp only [List.getElem?_cons_zero, Option.some.injEq] at h
  subst h
  have hj : j < 5 := (List.getElem?_eq_some_iff.1 hx).1
  rw [List.flatMap_cons, Nat.zero_mul, Nat.zero_add, List.getElem?_append_left hj]
  exact hx
 | y :: ys, k + 1, c, h, j, x, hx => by
  rw [List.flatMap_cons, List.getElem?_append_right (by rw [NameV.cells_length]; omega), show (k + 1) * 5 + j - y.1.cells.length = k * 5 + j by rw [NameV.cells_length]; omega]
  exact flat5 ys k c (by simpa using h) j x hx
end Go.Proofs.YtpnchdgplpdefaaDoor
namespace Go.Proofs.YtpnchdgplpdefaaDoor
open Go.RowKit Go.Shelf
theorem bytesL_take {L : List Ent} {k : Nat} {x : Ent} (h : L[k]? = some x) : bytesL (L.take (k + 1)) = bytesL (L.take k) + x.2.size := by
 unfold bytesL
 rw [List.take_add_one, h, Option.toList_some, List.map_append, List.sum_append]
 simp
theorem bytesL_append (A B : List Ent) : bytesL (A ++ B) = bytesL A + bytesL B := by
 unfold bytesL
 rw [List.map_append, List.sum_append]
theorem bytesL_take_le (L : List Ent) (k : Nat) : bytesL (L.take k) ≤ bytesL L := by
 have h := bytesL_append (L.take k) (L.drop k)
 rw [List.take_append_drop] at h
 omega
theorem find_at {L : List Ent} {k : Nat} {x : Ent} (hs : SortL L) (h : L[k]? = some x) : findL x.1 L = some x.2 := by
 obtain ⟨hk, rfl⟩ := List.getElem?_eq_some_iff.1 h
 have e : L = L.take k ++ L[k] :: L.drop (k + 1) := by rw [← List.drop_eq_getElem_cons hk, List.take_append_drop]
 have hs2 := hs
 rw [e] at hs2
 obtain ⟨_, _, q, _⟩ := SortL.parts hs2
 have g := findL_gt (nm := L[k].1) (L.take k) (L[k] :: L.drop (k + 1)) (fun y hy => cmpN_pos (q y hy))
 rw [← e] at g
 rw [g, findL, if_pos (cmpN_is.refl _)]
def BInv (w : World) (L : List Ent) (N : Nat) (n i : Value) (wr : World) : Prop := ∃ k : Nat, k ≤ N ∧ n = .int .i64 (bytesL (L.take k) : Int) ∧ i = .int .i64 (k : Int) ∧ Fr Nothing w wr
set_option maxRecDepth 100000 in
set_option maxHeartbeats 4000000 in
theorem rBytes_any (L : List Ent) (A : Option Addr) (N c : Nat) (S : Nat → Prop) (w : World) (hL : EL w S A N L) (hN : N ≤ 1048576) (hB : bytesL L ≤ 1099511627776) :
  Calls Tryd.prog 40 #[.slice A N c] w (Same' w (.int .i64 (bytesL L : Int))) := by
 have HL := Lib.hid hL
 have HB := Lib.hid hB
 have HLE : Hid (L.length = N) := hL.len
 have HC0 : Hid (BInv w L N (.int .i64 0) (.int .i64 0) w) := ⟨0, by omega, rfl, rfl, Fr.refl _ _⟩
 clear hL hB
 go_enter Tryd.func40, Tryd.ntmps40
 go_wp2
 go_loopw [3, 4] (fun n i wr => BInv w L N n i wr) (fun _ i _ => N - (intOf i).toNat)
 case atStart => exact HC0.out
 case round =>
  obtain ⟨k, hk, rfl, rfl, hF⟩ := hrel
  have FR := Lib.hid hF
  clear hF HC0
  by_cases hlt : k < N
  ·have hI : (k : Int) < (N : Int) := by omega
   have hI0 : (0 : Int) ≤ (k : Int) := by omega
   have t0 : decide ((k : Int) < (N : Int)) = true := decide_eq_true hI
   obtain ⟨ad, x, rfl, hx, hc⟩ := (HL.out.fr0 FR.out).at_ hlt
   have HT := Lib.hid (bytesL_take hx)
   have HLE2 : Hid (bytesL (L.take (k + 1)) ≤ bytesL L) := bytesL_take_le L (k + 1)
   have cv : wr.cell? { block := (ad.add (k * 6)).block, off := (ad.add (k * 6)).off + 5 } = some (.string x.2) := hc 5 _ rfl
   have h2 : bytesL (L.take k) + x.2.size ≤ 1099511627776 := by have := HT.out; have := HLE2.out; have := HB.out; omega
   clear hc hx HLE2
   generalize bytesL (L.take k) = b0 at *
   go_wp2
   go_roundw
   case rel => exact ⟨k + 1, by omega, by rw [HT.out]; go_num, by go_num, FR.out⟩
   case measure => simp [intOf]; omega
  ·obtain rfl : k = N := by omega
   have t0 : decide ((k : Int) < (k : Int)) = false := decide_eq_false (by omega)
   have e : L.take k = L := List.take_of_length_le (by have := HLE.out; omega)
   rw [e]
   go_wp2
   go_ret
   exact ⟨rfl, FR.out⟩
def IInv (w : World) (N : Nat) (i : Value) (wr : World) : Prop := ∃ k : Nat, k ≤ N ∧ i = .int .i64 (k : Int) ∧ Fr Nothing w wr
set_option maxRecDepth 100000 in
set_option maxHeartbeats 4000000 in
theorem Is_any (L : List Ent) (s : Nat) (rv : Value) (w : World) (hS : StL w s L) (hR : RowE w rv L) (hG : GoodL L) (hN : ∀ x ∈ L, GoodN x.1) (hl : L.length ≤ 60000) :
  Calls Tryd.prog 16 #[.pointer (some ⟨s, 0, none⟩), rv] w (Same' w (.bool true)) := by
 obtain ⟨t, hst, htl⟩ := hS
 have hsz : t.size = L.length := by rw [← t.toL_length, htl]
 have hby : t.bytes = bytesL L := by rw [t.bytes_toL, htl]
 have hbb : bytesL L ≤ 1099511627776 := by have := hG.bytes; omega
 have CN : Hid (∀ w', Fr Nothing w w' → Calls Tryd.prog 35 #[.pointer (some ⟨s, 0, none⟩)] w' (fun r w'' => ∃ v, r = .returned v ∧ Grew 36 5 w' (.slice none 0 0) w'' v L.length (L.flatMap (fun x => x.1.cells)))) := fun w' f => by
  have h := Names_any s t w' (hst.fr0 f) (by omega)
  rw [htl, hsz] at h
  exact h
 have CL0 : Hid (∀ w', Fr Nothing w w' → Calls Tryd.prog 33 #[.pointer (some ⟨s, 0, none⟩)] w' (SameW w' (.int .i64 (L.length : Int)))) := fun w' f => by
  rw [← hsz]
  exact Len_any w' s t (hst.fr0 f)
 have CB : Hid (∀ w', Fr Nothing w w' → Calls Tryd.prog 34 #[.pointer (some ⟨s, 0, none⟩)] w' (SameW w' (.int .i64 (bytesL L : Int)))) := fun w' f => by
  rw [← hby]
  exact Bytes_any w' s t (hst.fr0 f)
 have CG : Hid (∀ (k : Nat) (x : Ent), L[k]? = some x → ∀ w', Fr Nothing w w' → Calls Tryd.prog 18 #[.pointer (some ⟨s, 0, none⟩), .agg x.1.cells.toArray] w' (Same' w' (.tuple #[.string x.2, .bool true]))) := fun k x hx w' f => by
  have h := Get_any L x.1 s w' ⟨t, hst.fr0 f, htl⟩ hG (hN x (List.mem_of_getElem? hx))
  rw [find_at hG.sort hx] at h
  exact h
 obtain ⟨A1, n1, c1, rfl, H1, _⟩ := own_slice hR
 have hn1 := H1.out
 subst hn1
 have EL1 : Hid (EL w (fun _ => True) A1 L.length L) := hR.el.2.1
 have CR : Hid (∀ w', Fr Nothing w w' → Calls Tryd.prog 40 #[.slice A1 L.length c1] w' (Same' w' (.int .i64 (bytesL L : Int)))) := fun w' f => rBytes_any L A1 _ c1 _ w' (EL1.out.fr0 f) (by omega) hbb
 have FL5 : Hid (∀ (k : Nat) (c : Ent), L[k]? = some c → ∀ j x, c.1.cells[j]? = some x → (L.flatMap (fun x => x.1.cells))[k * 5 + j]? = some x) := fun k c h j x hx => flat5 _ k c h j x hx
 have HBB := Lib.hid hbb
 have HLL := Lib.hid hl
 clear hst htl hsz hby hbb hR hG hN H1
 generalize bytesL L = BB at *
 generalize hNN : L.length = NN at *
 have hn6 : NN ≤ 60000 := HLL.out
 clear hNN hl
 have h6 : BB ≤ 1099511627776 := HBB.out
 go_enter Tryd.func16, Tryd.ntmps16
 go_wp2_with fail
 refine (CN.out _ (Fr.refl _ _)).mono ?_
 rintro e w7 ⟨v7, rfl, hG7⟩
 have F7 := Lib.hid hG7.fr0
 obtain ⟨A7, n7, c7, rfl, H7, _⟩ := own_slice hG7.own
 have hn7 := H7.out
 subst hn7
 have RD7 := Lib.hid (Rd.of_own hG7.own).any
 have HC0 : Hid (IInv w7 n7 (.int .i64 0) w7) := ⟨0, by omega, rfl, Fr.refl _ _⟩
 clear hG7 H7
 go_wp2_with fail
 refine (CL0.out _ F7.out).mono ?_
 rintro e w8 ⟨rfl, rfl⟩
 go_wp2_with fail
 refine (CB.out _ F7.out).mono ?_
 rintro e w8 ⟨rfl, rfl⟩
 go_wp2_with fail
 refine (CR.out _ F7.out).mono ?_
 rintro e w8 ⟨rfl, f8⟩
 have F78 := Lib.hid f8
 clear f8
 have HC8 : Hid (IInv w7 n7 (.int .i64 0) w8) := ⟨0, by omega, rfl, F78.out⟩
 go_wp2
 go_loopw [6] (fun i wr => IInv w7 n7 i wr) (fun i _ => n7 - (intOf i).toNat)
 case atStart => exact HC8.out
 case round =>
  obtain ⟨j, hj, rfl, hF⟩ := hrel
  have FR := Lib.hid hF
  clear hF HC0 HC8
  by_cases hlt : j < n7
  ·have hI : (j : Int) < (n7 : Int) := by omega
   have hI0 : (0 : Int) ≤ (j : Int) := by omega
   have t0 : decide ((j : Int) < (n7 : Int)) = true := decide_eq_true hI
   obtain ⟨ad, x, rfl, hx, hc⟩ := (EL1.out.fr0 (F7.out.trans FR.out)).at_ hlt
   have HX := Lib.hid hx
   have HC := Lib.hid hc
   clear hc hx
   obtain ⟨a7, rfl, _, hc7⟩ := RD7.out.2 (by omega)
   have C7 : Hid (∀ jj v, x.1.cells[jj]? = some v → wr.cell? ((a7.add (j * 5)).add jj) = some v) := fun jj v hv => by
    have h := FR.out.cellSome (hc7 (j * 5 + jj) v (FL5.out j x HX.out jj v hv)) (fun x => x)
    rw [add_of_add]; exact h
   clear hc7
   go_wp2_with (refine wpList_load_add rfl 36 (.tmp 40) rfl (a7.add (j * 5)) rfl x.1.cells _ ?hcc1 Tryd.underlying36 rfl infoName (Held.go ?hold1))
   case hcc1 => exact fun j x hx => C7.out j x hx
   unfold Held
   go_wp2_with fail
   refine (CG.out j x HX.out _ (F7.out.trans FR.out)).mono ?_
   rintro e w9 ⟨rfl, f9⟩
   have FR9 := Lib.hid (FR.out.trans f9)
   have HC9 : Hid (∀ jj v, (entC x)[jj]? = some v → w9.cell? ((ad.add (j * 6)).add jj) = some v) := fun jj v hv => f9.cellSome (HC.out jj v hv) (fun x => x)
   have C79 : Hid (∀ jj v, x.1.cells[jj]? = some v → w9.cell? ((a7.add (j * 5)).add jj) = some v) := fun jj v hv => f9.cellSome (C7.out jj v hv) (fun x => x)
   clear f9 HC C7 FR
   go_upto_region 8 with fail
   refine wp_region_st 24 Nothing [Is (.slice (some a7) n7 c7), Is (.int .i64 (j : Int)), Is (.pointer (some (a7.add (j * 5)))), Is (.agg x.1.cells.toArray), Is (.agg x.1.cells.toArray), Is (.slice (some ad) n7 c1), Is (.int .i64 (j : Int)), Is (.pointer (some (ad.add (j * 6)))), Is (.pointer (some (ad.add (j * 6)))), Is (.agg x.1.cells.toArray), Is (.bool false), Is (.bool false), Is (.bool true), Is (.bool false), Is (.bool false), Is (.bool false), Is (.string x.2), Is (.slice (some ad) n7 c1), Is (.int .i64 (j : Int)), Is (.pointer (some (ad.add (j * 6)))), Is (.pointer (some { block := (ad.add (j * 6)).block, off := (ad.add (j * 6)).off + 5 })), Is (.string x.2), Is (.bool false), Is (.bool false)] [] (fun _ => True) (fun _ _ => false) (by kernel_rfl) (by kernel_rfl) (by kernel_rfl) (by kernel_rfl) ⟨Is.stable _, Is.stable _, Is.stable _, Is.stable _, Is.stable _, Is.stable _, Is.stable _, Is.stable _, Is.stable _, Is.stable _, Is.stable _, Is.stable _, Is.stable _, Is.stable _, Is.stable _, Is.stable _, Is.stable _, Is.stable _, Is.stable _, Is.stable _, Is.stable _, Is.stable _, Is.stable _, Is.stable _, trivial⟩ trivial (fun _ _ _ _ h => h) trivial ?_ ?_
   ·refine ⟨?a11_0, ?a11_1, ?a11_2, ?a11_3, ?a11_4, ?a11_5, ?a11_6, ?a11_7, ?a11_8, ?a11_9, ?a11_10, ?a11_11, ?a11_12, ?a11_13, ?a11_14, ?a11_15, ?a11_16, ?a11_17, ?a11_18, ?a11_19, ?a11_20, ?a11_21, ?a11_22, ?a11_23, trivial⟩
    all_goals intro u w' d hf hR k1 k0 kM
    all_goals simp only [List.take_succ_cons, List.take_zero, List.map_cons, List.map_nil, puts, Act.put, List.setIfInBounds_toArray, List.set_cons_zero, List.set_cons_succ, Nat.reduceAdd, Nat.zero_add]
    case' a11_2 => simp only [show u 0 = _ from hR 0 (by kernel_rfl), show u 1 = _ from hR 1 (by kernel_rfl)]
    case a11_3 =>
     simp only [show u 2 = _ from hR 2 (by kernel_rfl)]
     clear hR k1 k0 kM
     refine .inl ⟨by kernel_rfl, ?_⟩
     exact wp_load_add _ _ rfl (a7.add (j * 5)) rfl x.1.cells _ (fun jj v hv => hf.cellSome (C79.out jj v hv) (fun x => x)) Tryd.underlying36 rfl infoName ⟨_, rfl, Fr.refl _ _, rfl, trivial⟩
    case a11_4 =>
     simp only [show u 3 = _ from hR 3 (by kernel_rfl)]
     clear hR k1 k0 kM
     refine .inl ⟨by kernel_rfl, ?_⟩
     go_simp
     refine (Of4_any x.1 _).mono ?_
     rintro e w4 ⟨rfl, f4⟩
     exact ⟨_, rfl, f4.weak, rfl, trivial⟩
    case' a11_7 => simp only [show u 5 = _ from hR 5 (by kernel_rfl), show u 6 = _ from hR 6 (by kernel_rfl)]
    case' a11_8 => simp only [show u 7 = _ from hR 7 (by kernel_rfl)]
    case a11_9 =>
     simp only [show u 8 = _ from hR 8 (by kernel_rfl)]
     clear hR k1 k0 kM
     refine .inl ⟨by kernel_rfl, ?_⟩
     exact wp_load_add _ _ rfl (ad.add (j * 6)) rfl x.1.cells _ (fun jj v hv => hf.cellSome (HC9.out jj v (by rw [entC, List.getElem?_append_left (List.getElem?_eq_some_iff.1 hv).1]; exact hv)) (fun x => x)) Tryd.underlying40 rfl infoN ⟨_, rfl, Fr.refl _ _, rfl, trivial⟩
    case a11_10 =>
     simp only [show u 4 = _ from hR 4 (by kernel_rfl), show u 9 = _ from hR 9 (by kernel_rfl)]
     clear hR k1 k0 kM
     refine .inl ⟨by kernel_rfl, ?_⟩
     exact wp_binAgg _ _ _ _ _ rfl _ _ rfl rfl Tryd.eqGuardType40 _ (neqN_same x.1 _) ⟨_, rfl, Fr.refl _ _, rfl, trivial⟩
    case' a11_11 => simp only [show u 10 = _ from hR 10 (by kernel_rfl)]
    case' a11_12 => simp only [show u 11 = _ from hR 11 (by kernel_rfl)]
    case' a11_13 => simp only [show u 12 = _ from hR 12 (by kernel_rfl), show u 11 = _ from hR 11 (by kernel_rfl)]
    case' a11_14 => simp only [show u 11 = _ from hR 11 (by kernel_rfl), show u 13 = _ from hR 13 (by kernel_rfl)]
    case' a11_15 => simp only [show u 14 = _ from hR 14 (by kernel_rfl)]
    case' a11_16 => simp only [show u 15 = _ from hR 15 (by kernel_rfl)]
    case' a11_17 => simp only [show u 15 = _ from hR 15 (by kernel_rfl)]
    case' a11_18 => simp only [show u 15 = _ from hR 15 (by kernel_rfl)]
    case' a11_19 => simp only [show u 17 = _ from hR 17 (by kernel_rfl), show u 18 = _ from hR 18 (by kernel_rfl), show u 15 = _ from hR 15 (by kernel_rfl)]
    case' a11_20 => simp only [show u 19 = _ from hR 19 (by kernel_rfl), show u 15 = _ from hR 15 (by kernel_rfl)]
    case a11_21 =>
     simp only [show u 20 = _ from hR 20 (by kernel_rfl), show u 15 = _ from hR 15 (by kernel_rfl)]
     clear hR k1 k0 kM
     refine .inl ⟨by kernel_rfl, ?_⟩
     have q : _ = some (Value.string x.2) := hf.cellSome (show w9.cell? { block := (ad.add (j * 6)).block, off := (ad.add (j * 6)).off + 5 } = some (.string x.2) from HC9.out 5 _ rfl) (fun x => x)
     go_simp
     exact ⟨_, rfl, Fr.refl _ _, rfl, trivial⟩
    case' a11_22 => simp only [show u 16 = _ from hR 16 (by kernel_rfl), show u 21 = _ from hR 21 (by kernel_rfl), show u 15 = _ from hR 15 (by kernel_rfl)]
    case' a11_23 => simp only [show u 15 = _ from hR 15 (by kernel_rfl), show u 22 = _ from hR 22 (by kernel_rfl)]
    all_goals
     clear hR k1 k0 kM
     refine .inl ⟨by kernel_rfl, ?_⟩
     go_simp
     exact ⟨_, rfl, Fr.refl _ _, rfl, trivial⟩
   ·intro u w' hf hR kM
    have k23 : u 23 = _ := hR 23 (by omega)
    clear hR kM
    simp only [List.take_succ_cons, List.take_zero, List.map_cons, List.map_nil, puts, Act.put, List.setIfInBounds_toArray, List.set_cons_zero, List.set_cons_succ, List.drop_succ_cons, List.drop_zero, Nat.reduceAdd, Nat.zero_add, k23]
    have FX := Lib.hid (FR9.out.trans hf)
    clear hf k23
    go_wp2
    go_roundw
    case rel => exact ⟨j + 1, by omega, by go_num, FX.out⟩
    case measure => simp [intOf]; omega
  ·obtain rfl : j = n7 := by omega
   have t0 : decide ((j : Int) < (j : Int)) = false := decide_eq_false (by omega)
   go_wp2
   go_ret
   exact ⟨rfl, F7.out.trans FR.out⟩
end Go.Proofs.YtpnchdgplpdefaaDoor
namespace Go.Proofs.YtpnchdgplpdefaaDoor
open Go.ChangeShapes Go.WideShapes Go.ChangeAt Go.RowKit
theorem cellsInt : Tryd.prog.cellsOf 3 = 1 := by kernel_rfl
theorem cellsStr : Tryd.prog.cellsOf 9 = 1 := by kernel_rfl
theorem cellsBool : Tryd.prog.cellsOf 4 = 1 := by kernel_rfl
theorem cellsUsa : Tryd.prog.cellsOf 110 = 6 := by kernel_rfl
theorem cellsUsas : Tryd.prog.cellsOf 111 = 126 := by kernel_rfl
theorem g_usages : Tryd.prog.globalNamed "replevin/object.usages" = some 0 := by kernel_rfl
theorem ty_usages : (Tryd.prog.globals[0]?).map (·.type) = some 111 := by kernel_rfl
def Usa.datum {H : Type} (u : Usa) : DataW H := .agg [.lit (.string u.word.data.toList), .lit (.bool u.owner), .lit (.bool u.number), .lit (.bool u.index), .lit (.bool u.text), .lit (.int .i64 u.most)]
set_option maxRecDepth 100000 in
theorem usa_laid : (Rows.laid_replevin_object_usages : DataW Unit) = .agg (usaL.map Usa.datum) := by kernel_rfl
set_option maxRecDepth 100000 in
theorem open_usa {H : Type} {enc : TypeId × Value → H} {w : World} {base : Nat} {sp : Nat → Bool} {held : Bool} {fuel : Nat} {l : List Value} {u : Usa} {x : DataW H × List MemPlace} (hx : x.1 = u.datum)
  (h : DataW.trod enc Tryd.prog w base sp held fuel 110 l = some x) : l = u.cells := by
 obtain ⟨ys, n', _, rfl, hcl, hyl, hf⟩ := DataW.trod_struct Tryd.underlying110 h
 rw [cellsUsa] at hcl
 match l, hcl with
 | [x0, x1, x2, x3, x4, x5], _ =>
  have g0 := hf 0 _ rfl
  have g1 := hf 1 _ rfl
  have g2 := hf 2 _ rfl
  have g3 := hf 3 _ rfl
  have g4 := hf 4 _ rfl
  have g5 := hf 5 _ rfl
  match ys, hyl with
  | [y0, y1, y2, y3, y4, y5], _ =>
   simp [cellsInt, cellsStr, cellsBool] at g0 g1 g2 g3 g4 g5
   obtain ⟨a0, e0, rfl, _⟩ := DataW.trod_string Tryd.underlying9 g0
   obtain ⟨a1, e1, rfl⟩ := DataW.trod_bool Tryd.underlying4 g1
   obtain ⟨a2, e2, rfl⟩ := DataW.trod_bool Tryd.underlying4 g2
   obtain ⟨a3, e3, rfl⟩ := DataW.trod_bool Tryd.underlying4 g3
   obtain ⟨a4, e4, rfl⟩ := DataW.trod_bool Tryd.underlying4 g4
   obtain ⟨a5, e5, rfl, _⟩ := DataW.trod_int Tryd.underlying3 g5
   simp only [List.cons.injEq, and_true] at e0 e1 e2 e3 e4 e5
   subst e0 e1 e2 e3 e4 e5
   simp only [Usa.datum, List.map_cons, List.map_nil, DataW.agg.injEq, List.cons.injEq, DataW.lit.injEq, Lit.string.injEq, Lit.bool.injEq, Lit.int.injEq, and_true, true_and] at hx
   obtain ⟨h0, h1, h2, h3, h4, h5⟩ := hx
   have hw : a0 = u.word := by
    cases a0
    cases hu : u.word
    rw [hu] at h0
    simpa [Array.toList_inj] using h0
   rw [Usa.cells, hw, h1, h2, h3, h4, h5]
theorem usa_of {W : World} {rest : List (String × DataW Unit)} (h : laidMet Tryd.prog (("replevin/object.usages", Rows.laid_replevin_object_usages) :: rest) W) : UsaT W := by
 obtain ⟨ps, ⟨g', t', cs, fuel, p, q, hg', ht', hvar, hd, _, _⟩, _⟩ := h
 obtain rfl := Option.some.inj (g_usages.symm.trans hg')
 obtain rfl := Option.some.inj (ty_usages.symm.trans ht')
 obtain ⟨xs, m, _, hx, hl, hxl, hi⟩ := DataW.trod_array Tryd.underlying111 hd
 rw [cellsUsas] at hl
 refine ⟨fun k u hk j v hv => ?_⟩
 have hk' : k < 21 := by
  have := (List.getElem?_eq_some_iff.1 hk).1
  simpa [usaL] using this
 have g := hi k hk'
 rw [cellsUsa, List.getElem?_eq_getElem (by omega)] at g
 have hdat : (xs[k]).1 = u.datum := by
  rw [usa_laid] at hx
  simp only [Prod.mk.injEq, DataW.agg.injEq] at hx
  have h2 := congrArg (·[k]?) hx.1
  simp only [List.getElem?_map, hk, Option.map_some, List.getElem?_eq_getElem (show k < xs.length by omega), Option.some.injEq] at h2
  exact h2.symm
 have hc := open_usa hdat g
 have hj : j < 6 := by
  have := (List.getElem?_eq_some_iff.1 hv).1
  simpa [Usa.cells] using this
 refine World.var?_cell g_usages hvar (k * 6 + j) |>.trans ?_
 rw [← hc, List.getElem?_take_of_lt hj, List.getElem?_drop] at hv
 simpa using hv
end Go.Proofs.YtpnchdgplpdefaaDoor
namespace Go.Proofs.YtpnchdgplpdefaaDoor
open Go.ChangeShapes Go.WideShapes Go.ChangeAt Go.RowKit Go.Deep
structure NameV.good (n : NameV) : Prop where
 kind : -9223372036854775808 ≤ n.kind ∧ n.kind ≤ 9223372036854775807
 number : -9223372036854775808 ≤ n.number ∧ n.number ≤ 9223372036854775807
 index : -9223372036854775808 ≤ n.index ∧ n.index ≤ 9223372036854775807
 owner : n.owner.size ≤ 9223372036854775807
 text : n.text.size ≤ 9223372036854775807
structure CV.good (c : CV) : Prop where
 nm : c.nm.good
 value : c.value.size ≤ 9223372036854775807
end Go.Proofs.YtpnchdgplpdefaaDoor
