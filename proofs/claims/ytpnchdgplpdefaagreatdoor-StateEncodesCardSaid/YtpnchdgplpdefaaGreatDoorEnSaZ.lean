/- State: find, with, without (written by genSaZ.py). -/
import Derived.Test.YtpnchdgplpdefaaGreatDoorEnSaY
namespace Go.Proofs.YtpnchdgplpdefaaGreatDoor
open Go.RowKit Go.Shelf
abbrev Ent := NameV × ByteArray
def SortL (L : List Ent) : Prop := L.Pairwise (fun a b => cmpN a.1 b.1 < 0)
def insL (nm : NameV) (v : ByteArray) : List Ent → List Ent
 | [] => [(nm, v)]
 | x :: r => if cmpN nm x.1 < 0 then (nm, v) :: x :: r else if cmpN nm x.1 = 0 then (nm, v) :: r else x :: insL nm v r
def delL (nm : NameV) : List Ent → List Ent
 | [] => []
 | x :: r => if cmpN nm x.1 = 0 then r else x :: delL nm r
def findL (nm : NameV) : List Ent → Option ByteArray
 | [] => none
 | x :: r => if cmpN nm x.1 = 0 then some x.2 else findL nm r
theorem insL_lt {nm : NameV} {v : ByteArray} {x : Ent} (h : cmpN nm x.1 < 0) : ∀ (L R : List Ent), insL nm v (L ++ x :: R) = insL nm v L ++ x :: R
 | [], R => by simp [insL, h]
 | y :: L, R => by
  simp only [List.cons_append, insL]
  split
  ·rfl
  ·split
   ·rfl
   ·rw [insL_lt h L R]
    rfl
theorem insL_gt {nm : NameV} {v : ByteArray} : ∀ (L M : List Ent), (∀ y ∈ L, 0 < cmpN nm y.1) → insL nm v (L ++ M) = L ++ insL nm v M
 | [], _, _ => rfl
 | y :: L, M, h => by
  have h1 := h y (by simp)
  simp only [List.cons_append, insL]
  rw [if_neg (by omega), if_neg (by omega), insL_gt L M (fun z hz => h z (by simp [hz]))]
theorem delL_gt {nm : NameV} : ∀ (L M : List Ent), (∀ y ∈ L, 0 < cmpN nm y.1) → delL nm (L ++ M) = L ++ delL nm M
 | [], _, _ => rfl
 | y :: L, M, h => by
  have h1 := h y (by simp)
  simp only [List.cons_append, delL]
  rw [if_neg (by omega), delL_gt L M (fun z hz => h z (by simp [hz]))]
theorem findL_gt {nm : NameV} : ∀ (L M : List Ent), (∀ y ∈ L, 0 < cmpN nm y.1) → findL nm (L ++ M) = findL nm M
 | [], _, _ => rfl
 | y :: L, M, h => by
  have h1 := h y (by simp)
  simp only [List.cons_append, findL]
  rw [if_neg (by omega), findL_gt L M (fun z hz => h z (by simp [hz]))]
theorem delL_lt {nm : NameV} : ∀ (L M : List Ent), (∀ y ∈ M, cmpN nm y.1 < 0) → (∃ v, (nm, v) ∈ L) → delL nm (L ++ M) = delL nm L ++ M
 | [], _, _, h => by obtain ⟨v, hv⟩ := h; cases hv
 | y :: L, M, h, hm => by
  simp only [List.cons_append, delL]
  by_cases e : cmpN nm y.1 = 0
  ·rw [if_pos e, if_pos e]
  ·rw [if_neg e, if_neg e, delL_lt L M h, List.cons_append]
   obtain ⟨v, hv⟩ := hm
   rcases List.mem_cons.1 hv with h1 | h1
   ·rw [← h1] at e
    exact absurd (cmpN_is.refl nm) e
   ·exact ⟨v, h1⟩
theorem findL_none {nm : NameV} : ∀ (M : List Ent), (∀ y ∈ M, cmpN nm y.1 < 0) → findL nm M = none
 | [], _ => rfl
 | y :: M, h => by
  have h1 := h y (by simp)
  rw [findL, if_neg (by omega), findL_none M (fun z hz => h z (by simp [hz]))]
theorem findL_lt {nm : NameV} : ∀ (L M : List Ent), (∀ y ∈ M, cmpN nm y.1 < 0) → findL nm (L ++ M) = findL nm L
 | [], M, h => findL_none M h
 | y :: L, M, h => by
  simp only [List.cons_append, findL]
  rw [findL_lt L M h]
theorem findL_mem {nm : NameV} {v : ByteArray} : ∀ {L : List Ent}, findL nm L = some v → (nm, v) ∈ L
 | [], h => by simp [findL] at h
 | y :: L, h => by
  rw [findL] at h
  split at h
  ·rename_i e
   have h1 := cmpN_is.eq _ _ e
   simp only [Option.some.injEq] at h
   rw [h1, ← h]
   simp
  ·exact List.mem_cons_of_mem _ (findL_mem h)
theorem SortL.parts {L R : List Ent} {x : Ent} (h : SortL (L ++ x :: R)) : SortL L ∧ SortL R ∧ (∀ y ∈ L, cmpN y.1 x.1 < 0) ∧ (∀ y ∈ R, cmpN x.1 y.1 < 0) := by
 unfold SortL at h
 rw [List.pairwise_append, List.pairwise_cons] at h
 exact ⟨h.1, h.2.1.2, fun y hy => h.2.2 y hy x (by simp), h.2.1.1⟩
theorem cmpN_pos {a b : NameV} (h : cmpN a b < 0) : 0 < cmpN b a := by rw [cmpN_is.anti a b]; omega
theorem cmpN_neg {a b : NameV} (h : 0 < cmpN a b) : cmpN b a < 0 := by rw [cmpN_is.anti a b]; omega
theorem insL_sort {nm : NameV} {v : ByteArray} : ∀ {L : List Ent}, SortL L → SortL (insL nm v L) ∧ ∀ x ∈ insL nm v L, x = (nm, v) ∨ x ∈ L
 | [], _ => by simp [insL, SortL]
 | y :: L, h => by
  have h1 := List.pairwise_cons.1 h
  rw [insL]
  split
  ·rename_i hlt
   refine ⟨List.pairwise_cons.2 ⟨fun z hz => ?_, h⟩, fun x hx => by simpa using hx⟩
   rcases List.mem_cons.1 hz with rfl | hz
   ·exact hlt
   ·exact cmpN_is.trans _ _ _ hlt (h1.1 z hz)
  ·split
   ·rename_i _ he
    have e := cmpN_is.eq _ _ he
    refine ⟨List.pairwise_cons.2 ⟨fun z hz => ?_, h1.2⟩, fun x hx => ?_⟩
    ·simp only
     rw [e]
     exact h1.1 z hz
    ·rcases List.mem_cons.1 hx with h | h
     ·exact .inl h
     ·exact .inr (List.mem_cons_of_mem _ h)
   ·rename_i hn he
    obtain ⟨i1, i2⟩ := insL_sort (nm := nm) (v := v) h1.2
    refine ⟨List.pairwise_cons.2 ⟨fun z hz => ?_, i1⟩, fun x hx => ?_⟩
    ·rcases i2 z hz with rfl | hz
     ·exact cmpN_neg (by simp only; omega)
     ·exact h1.1 z hz
    ·rcases List.mem_cons.1 hx with h | h
     ·exact .inr (by simp [h])
     ·rcases i2 x h with h | h
      ·exact .inl h
      ·exact .inr (List.mem_cons_of_mem _ h)
theorem delL_sub {nm : NameV} : ∀ (L : List Ent), (delL nm L).Sublist L
 | [] => .slnil
 | y :: L => by
  rw [delL]
  split
  ·exact List.sublist_cons_self _ _
  ·exact (delL_sub L).cons_cons _
theorem delL_sort {nm : NameV} {L : List Ent} (h : SortL L) : SortL (delL nm L) := h.sublist (delL_sub L)
def OwnS (L : List Ent) : Prop := ∀ x ∈ L, x.1.owner.size ≤ 1099511627776
def hgt (w : World) : Value → Nat
 | .pointer (some a) => match w.cell? ⟨a.block, 8, none⟩ with
  | some (.int _ h) => h.toNat
  | _ => 0
 | _ => 0
theorem hgt_eq {w : World} {a : Option Addr} {t : Tr} (h : NodH w a t) : hgt w (.pointer a) = t.height := by
 cases t with
 | leaf =>
  obtain rfl : a = none := h
  rfl
 | node l nm v r =>
  obtain ⟨g, la, ra, rfl, _, _, hb⟩ := h
  have hc : w.cell? ⟨g, 8, none⟩ = some (.int .i64 ((Tr.node l nm v r).height : Nat)) := hb.cell 8
  simp only [hgt, hc, Int.toNat_natCast]
def Found (w : World) (nm : NameV) (L : List Ent) (e : Ending) (w' : World) : Prop := ∃ p, e = .returned (.pointer p) ∧ Fr Nothing w w' ∧ ((∃ g v, p = some ⟨g, 0, none⟩ ∧ findL nm L = some v ∧ Mid w' g nm v) ∨ (p = none ∧ findL nm L = none))
set_option maxRecDepth 100000 in
set_option maxHeartbeats 4000000 in
theorem find_any (n : NameV) (a : Option Addr) (t : Tr) (w : World) (hN : NodH w a t) (hS : SortL t.toL) (hn : n.owner.size ≤ 1099511627776) (ho : OwnS t.toL) :
  Calls Tryz.prog 45 #[.pointer a, .agg n.cells.toArray] w (Found w n t.toL) := by
 have HN := Lib.hid hN
 have HS := Lib.hid hS
 have HO := Lib.hid ho
 have HNO := Lib.hid hn
 clear hN hS hn ho
 go_enter Tryz.func45, Tryz.ntmps45
 go_wp2_with (refine wpList_boxBlk rfl 44 (.tmp 1) rfl n.cells.toArray rfl ?_)
 intro w1 n1
 have F1 := Lib.hid n1.fr
 have NB0 := Lib.hid n1.blk
 clear n1
 generalize w.heap.size = gb at *
 have NB : Hid (Blk w1 gb 44 n.cells.toArray) := NB0.out
 clear NB0
 go_wp2
 go_loopw [0] (fun i wr => ∃ (b : Option Addr) (u : Tr), i = .pointer b ∧ NodH wr b u ∧ SortL u.toL ∧ OwnS u.toL ∧ findL n u.toL = findL n t.toL ∧ Fr Nothing w1 wr) (fun i wr => hgt wr i)
 case atStart => exact ⟨a, t, rfl, HN.out.fr0 F1.out, HS.out, HO.out, rfl, Fr.refl _ _⟩
 case round =>
  obtain ⟨b, u, rfl, hN, hS, hO, hF, hfr⟩ := hrel
  have HFR := Lib.hid hfr
  have HFL := Lib.hid hF
  cases u with
  | leaf =>
   obtain rfl : b = none := hN
   clear hS hO hF hfr
   go_wp2
   go_ret
   exact ⟨_, rfl, F1.out.trans HFR.out, .inr ⟨rfl, HFL.out.symm⟩⟩
  | node l nm v r =>
   have HHG := Lib.hid (hgt_eq hN)
   obtain ⟨gq, la, ra, rfl, hl, hr, hb⟩ := hN
   have HL := Lib.hid hl
   have HR := Lib.hid hr
   have HM : Hid (Mid wr gq nm v) := Mid.of hb
   have C0 : Hid (wr.cell? ⟨gq, 0, none⟩ = some (.pointer la)) := hb.cell 0
   have C1 : Hid (wr.cell? ⟨gq, 1, none⟩ = some (.pointer ra)) := hb.cell 1
   have HSP := Lib.hid (SortL.parts hS)
   have HOO := Lib.hid hO
   have NBw := Lib.hid (NB.out.fr hfr (fun x => x))
   have CC : Hid (∀ w', Calls Tryz.prog 32 #[.agg n.cells.toArray, .agg nm.cells.toArray] w' (Same' w' (.int .i64 (cmpN n nm)))) := fun w' => objCompare_any n nm w' HNO.out (hO (nm, v) (by simp [Tr.toL]))
   obtain ⟨cc, hcc⟩ : ∃ cc, cc = cmpN n nm := ⟨_, rfl⟩
   rw [← hcc] at CC
   have HCC := Lib.hid hcc
   clear hl hr hb hS hO hF hfr hcc
   go_upto_region 2 with fail
   refine wp_region_st 7 Nothing [Is (.agg n.cells.toArray), Is (.pointer (some ⟨gq, 0, none⟩)), Is (.pointer (some ⟨gq, 0, none⟩)), Is (.pointer (some ⟨gq, 2, none⟩)), Is (.agg nm.cells.toArray), Is (.int .i64 cc), Is (.int .i64 cc)] [] (fun _ => True) (fun _ _ => false) (by kernel_rfl) (by kernel_rfl) (by kernel_rfl) (by kernel_rfl) ⟨Is.stable _, Is.stable _, Is.stable _, Is.stable _, Is.stable _, Is.stable _, Is.stable _, trivial⟩ trivial (fun _ _ _ _ h => h) trivial ?_ ?_
   ·refine ⟨fun u w' d hf hR k1 k0 kM => ?_, fun u w' d hf hR k1 k0 kM => ?_, fun u w' d hf hR k1 k0 kM => ?_, fun u w' d hf hR k1 k0 kM => ?_, fun u w' d hf hR k1 k0 kM => ?_, fun u w' d hf hR k1 k0 kM => ?_, fun u w' d hf hR k1 k0 kM => ?_, trivial⟩
    all_goals simp only [List.take_succ_cons, List.take_zero, List.map_cons, List.map_nil, puts, Act.put, List.setIfInBounds_toArray, List.set_cons_zero, List.set_cons_succ, Nat.reduceAdd, Nat.zero_add]
    ·clear hR k1 k0 kM
     refine .inl ⟨by kernel_rfl, ?_⟩
     exact wp_load_add _ _ rfl ⟨gb, 0, none⟩ rfl n.cells _ (fun j x hx => by rw [Addr.add_mid, Nat.zero_add]; exact (NBw.out.fr hf (fun x => x)).cell j |>.trans (by rw [List.getElem?_toArray]; exact hx)) Tryz.underlying44 rfl infoName ⟨_, rfl, Fr.refl _ _, rfl, trivial⟩
    ·clear hR k1 k0 kM
     refine .inl ⟨by kernel_rfl, ?_⟩
     go_simp
     exact ⟨_, rfl, Fr.refl _ _, rfl, trivial⟩
    ·have h1 : u 1 = _ := hR 1 (by kernel_rfl)
     clear hR k1 k0 kM
     simp only [h1]
     refine .inl ⟨by kernel_rfl, ?_⟩
     go_simp
     exact ⟨_, rfl, Fr.refl _ _, rfl, trivial⟩
    ·have h2 : u 2 = _ := hR 2 (by kernel_rfl)
     clear hR k1 k0 kM
     simp only [h2]
     refine .inl ⟨by kernel_rfl, ?_⟩
     go_simp
     exact ⟨_, rfl, Fr.refl _ _, rfl, trivial⟩
    ·have h3 : u 3 = _ := hR 3 (by kernel_rfl)
     clear hR k1 k0 kM
     simp only [h3]
     refine .inl ⟨by kernel_rfl, ?_⟩
     exact wp_load_add _ _ rfl ⟨gq, 2, none⟩ rfl nm.cells _ (fun j x hx => by rw [Addr.add_mid]; exact hf.cellSome (HM.out.name j x hx) (fun x => x)) Tryz.underlying44 rfl infoName ⟨_, rfl, Fr.refl _ _, rfl, trivial⟩
    ·have h0 : u 0 = _ := hR 0 (by kernel_rfl)
     have h4 : u 4 = _ := hR 4 (by kernel_rfl)
     clear hR k1 k0 kM
     simp only [h0, h4]
     refine .inl ⟨by kernel_rfl, ?_⟩
     go_simp
     refine (CC.out _).mono ?_
     rintro e w4 ⟨rfl, f4⟩
     exact ⟨_, rfl, f4.weak, rfl, trivial⟩
    ·have h5 : u 5 = _ := hR 5 (by kernel_rfl)
     clear hR k1 k0 kM
     simp only [h5]
     refine .inl ⟨by kernel_rfl, ?_⟩
     go_simp
     exact ⟨_, rfl, Fr.refl _ _, rfl, trivial⟩
   ·intro u w' hf hR kM
    have k6 : u 6 = _ := hR 6 (by omega)
    clear hR kM
    simp only [List.take_succ_cons, List.take_zero, List.map_cons, List.map_nil, puts, Act.put, List.setIfInBounds_toArray, List.set_cons_zero, List.set_cons_succ, List.drop_succ_cons, List.drop_zero, Nat.reduceAdd, Nat.zero_add, k6]
    have FF := Lib.hid hf
    clear hf k6
    by_cases h0 : cc = 0
    ·have t0 := beq0 h0
     have H0 := Lib.hid h0
     clear h0
     go_wp2
     go_ret
     refine ⟨_, rfl, F1.out.trans (HFR.out.trans FF.out), .inl ⟨gq, v, rfl, ?_, ?_⟩⟩
     ·rw [← HFL.out, Tr.toL, findL_gt _ _ (fun y hy => ?_), findL, if_pos (by simp only; rw [← HCC.out]; exact H0.out)]
      have e := cmpN_is.eq n nm (by rw [← HCC.out]; exact H0.out)
      rw [e]
      exact cmpN_pos (HSP.out.2.2.1 y hy)
     ·have e := cmpN_is.eq n nm (by rw [← HCC.out]; exact H0.out)
      rw [e]
      exact HM.out.fr0 FF.out
    ·have t0 := bne0 h0
     have H0 := Lib.hid h0
     by_cases h1 : cc < 0
     ·have t1 : decide (cc < 0) = true := decide_eq_true h1
      have H1 := Lib.hid h1
      have c0 := FF.out.cellSome C0.out (fun x => x)
      clear h0
      go_wp2
      go_roundw
      case rel =>
       refine ⟨la, l, rfl, HL.out.fr0 FF.out, HSP.out.1, fun x hx => HOO.out x (by simp [Tr.toL, hx]), ?_, HFR.out.trans FF.out⟩
       rw [← HFL.out, Tr.toL, findL_lt _ _ (fun y hy => ?_)]
       rcases List.mem_cons.1 hy with rfl | hy
       ·have := H1.out
        rw [HCC.out] at this
        exact this
       ·have := H1.out
        rw [HCC.out] at this
        exact cmpN_is.trans _ _ _ this (HSP.out.2.2.2 y hy)
      case measure =>
       rw [hgt_eq (HL.out.fr0 FF.out), HHG.out]
       simp only [Tr.height]
       omega
     ·have t1 : decide (cc < 0) = false := decide_eq_false h1
      have H1 := Lib.hid h1
      have c1 := FF.out.cellSome C1.out (fun x => x)
      clear h0
      go_wp2
      go_roundw
      case rel =>
       refine ⟨ra, r, rfl, HR.out.fr0 FF.out, HSP.out.2.1, fun x hx => HOO.out x (by simp [Tr.toL, hx]), ?_, HFR.out.trans FF.out⟩
       have hp : 0 < cmpN n nm := by have h1 := H0.out; have h2 := H1.out; rw [HCC.out] at h1 h2; omega
       rw [← HFL.out, Tr.toL, findL_gt _ _ (fun y hy => ?_), findL, if_neg (by simp only; omega)]
       exact cmpN_pos (cmpN_is.trans _ _ _ (HSP.out.2.2.1 y hy) (cmpN_neg hp))
      case measure =>
       rw [hgt_eq (HR.out.fr0 FF.out), HHG.out]
       simp only [Tr.height]
       omega
end Go.Proofs.YtpnchdgplpdefaaGreatDoor
