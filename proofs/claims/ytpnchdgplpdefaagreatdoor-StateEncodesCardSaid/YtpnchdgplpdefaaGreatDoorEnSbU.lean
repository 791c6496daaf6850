/- State: the reference's lists, Find (written by genSbG.py). -/
import Derived.Test.YtpnchdgplpdefaaGreatDoorEnSbC
import Derived.Test.YtpnchdgplpdefaaGreatDoorEnSbE
namespace Go.Proofs.YtpnchdgplpdefaaGreatDoor
open Go.RowKit Go.Shelf
theorem beqB (a b : ByteArray) : (a == b) = true ↔ a = b := by
 constructor
 ·intro h
  have h1 : (a.data == b.data) = true := h
  exact ByteArray.ext (by simpa using h1)
 ·rintro rfl
  have h1 : (a.data == a.data) = true := by simp
  exact h1
theorem beqL (a b : ByteArray) : (a.toList == b.toList) = (a == b) := by
 rw [Bool.eq_iff_iff, beqB, beq_iff_eq, ByteArray.toList_eq, ByteArray.toList_eq]
 constructor
 ·intro h
  exact ByteArray.ext (Array.toList_inj.1 h)
 ·rintro rfl
  rfl
def dropC (x : Ent) : CV := ⟨x.1, ByteArray.empty, true⟩
def setC (y : Ent) : CV := ⟨y.1, y.2, false⟩
def diffL : List Ent → List Ent → List CV
 | [], [] => []
 | x :: a, [] => dropC x :: diffL a []
 | [], y :: b => setC y :: diffL [] b
 | x :: a, y :: b => if cmpN x.1 y.1 < 0 then dropC x :: diffL a (y :: b) else if 0 < cmpN x.1 y.1 then setC y :: diffL (x :: a) b else if (x.2 == y.2) = true then diffL a b else setC y :: diffL a b
termination_by a b => a.length + b.length
theorem diff_length : ∀ a b : List Ent, (diffL a b).length ≤ a.length + b.length
 | [], [] => by rw [diffL]; exact Nat.le_refl _
 | x :: a, [] => by
  have h := diff_length a []
  rw [diffL]
  simp only [List.length_cons, List.length_nil] at h ⊢
  omega
 | [], y :: b => by
  have h := diff_length [] b
  rw [diffL]
  simp only [List.length_cons, List.length_nil] at h ⊢
  omega
 | x :: a, y :: b => by
  have h1 := diff_length a (y :: b)
  have h2 := diff_length (x :: a) b
  have h3 := diff_length a b
  rw [diffL]
  simp only [List.length_cons] at h1 h2 ⊢
  split
  ·simp only [List.length_cons]; omega
  ·split
   ·simp only [List.length_cons]; omega
   ·split
    ·omega
    ·simp only [List.length_cons]; omega
termination_by a b => a.length + b.length
theorem diff_self : ∀ a : List Ent, diffL a a = []
 | [] => by rw [diffL]
 | x :: a => by
  have h := cmpN_is.refl x.1
  rw [diffL, if_neg (by omega), if_neg (by omega), if_pos ((beqB _ _).2 rfl), diff_self a]
theorem CV_one (c : CV) : ∀ u ∈ c.cells, u.oneCell' = true := fun u hu => by
 have h := c.one
 rw [Array.all_eq_true_iff_forall_mem] at h
 exact h u (by simpa using hu)
end Go.Proofs.YtpnchdgplpdefaaGreatDoor
namespace Go.Proofs.YtpnchdgplpdefaaGreatDoor
open Go.RowKit Go.Shelf
def entC (x : Ent) : List Value := x.1.cells ++ [.string x.2]
theorem entC_length (x : Ent) : (entC x).length = 6 := rfl
theorem flat6 : ∀ (xs : List Ent) (k : Nat) (c : Ent), xs[k]? = some c → ∀ j x, (entC c)[j]? = some x → (xs.flatMap entC)[k * 6 + j]? = some x
 | [], _, _, h, _, _, _ => by simp at h
 | y :: ys, 0, c, h, j, x, hx => by
  simp only [List.getElem?_cons_zero, Option.some.injEq] at h
  subst h
  have hj : j < 6 := (List.getElem?_eq_some_iff.1 hx).1
  rw [List.flatMap_cons, Nat.zero_mul, Nat.zero_add, List.getElem?_append_left hj]
  exact hx
 | y :: ys, k + 1, c, h, j, x, hx => by
  simp only [List.getElem?_cons_succ] at h
  rw [List.flatMap_cons, List.getElem?_append_right (by rw [entC_length]; omega), entC_length, show (k + 1) * 6 + j - 6 = k * 6 + j by omega]
  exact flat6 ys k c h j x hx
structure EL (w : World) (S : Nat → Prop) (A : Option Addr) (n : Nat) (xs : List Ent) : Prop where
 rd : Rd w S 6 A n (xs.flatMap entC)
 len : xs.length = n
theorem EL.fr0 {w w' : World} {S : Nat → Prop} {A : Option Addr} {n : Nat} {xs : List Ent} (h : EL w S A n xs) (hf : Fr Nothing w w') : EL w' S A n xs := ⟨h.rd.fr0 hf, h.len⟩
theorem EL.at_ {w : World} {S : Nat → Prop} {A : Option Addr} {n k : Nat} {xs : List Ent} (h : EL w S A n xs) (hk : k < n) : ∃ ad c, A = some ad ∧ xs[k]? = some c ∧ ∀ j x, (entC c)[j]? = some x → w.cell? ((ad.add (k * 6)).add j) = some x := by
 obtain ⟨ad, e, hb, hc⟩ := h.rd.2 (by omega)
 have hkl : k < xs.length := by rw [h.len]; exact hk
 refine ⟨ad, xs[k], e, List.getElem?_eq_getElem hkl, fun j x hx => ?_⟩
 rw [Addr.add_add]
 exact hc _ _ (flat6 xs k _ (List.getElem?_eq_getElem hkl) j x hx)
set_option maxRecDepth 100000 in
theorem eqN_same (a : NameV) (w : World) : (binOp .eql 57 (.agg a.cells.toArray) (.agg a.cells.toArray)).run Tryz.prog w = .ok (.bool true) w := by
 obtain ⟨k, o, n, i, t⟩ := a
 simp only [NameV.cells]
 go_simp
set_option maxRecDepth 100000 in
theorem eqN_ne (a b : NameV) (h : a ≠ b) (w : World) : (binOp .eql 57 (.agg a.cells.toArray) (.agg b.cells.toArray)).run Tryz.prog w = .ok (.bool false) w := by
 obtain ⟨k, o, n, i, t⟩ := a
 obtain ⟨k', o', n', i', t'⟩ := b
 simp only [NameV.cells]
 go_simp
 intro h1 h2 h3 h4 h5
 exact h (by rw [h1, toList_inj h2, h3, h4, toList_inj h5])
theorem wp_binAgg {P : Program} {op : Oper} {a : Act} {w : World} {K : Act → World → Prop} {Q : Exit → Act → World → Prop} (o : BinOp) (t : TypeId) (x y : Operand) (ty : TypeId) (ho : op.op = .binOp o t x y ty)
  (xs ys : Array Value) (hx : a.eval x = .agg xs) (hy : a.eval y = .agg ys) (hg : P.eqGuardType P.depth t = false)
  (v : Value) (hr : (binOp o t (.agg xs) (.agg ys)).run P w = .ok v w) (h : K (a.put op.dst v) w) : op.wp P a w K Q := by
 have he := run_eqGuard_agg (P := P) (w := w) o t x y xs ys hg
 unfold Oper.wp execOp
 simp only [ho, hx, hy, Sem.run_bind, he, hr, Result.andThen_ok]
 exact h
def RFound (w : World) (n : NameV) (L : List Ent) (e : Ending) (w' : World) : Prop := ∃ (k : Nat) (b : Bool), e = .returned (.tuple #[.int .i64 (k : Int), .bool b]) ∧ Fr Nothing w w' ∧ k ≤ L.length ∧ (∀ y ∈ L.take k, cmpN y.1 n < 0) ∧
 ((k = L.length ∧ b = false) ∨ ∃ x, L[k]? = some x ∧ ¬ cmpN x.1 n < 0 ∧ b = (cmpN n x.1 == 0))
set_option maxRecDepth 100000 in
set_option maxHeartbeats 8000000 in
theorem rFind_any (n : NameV) (L : List Ent) (A : Option Addr) (N c : Nat) (S : Nat → Prop) (w : World) (hL : EL w S A N L) (hN : N ≤ 60000) (hn : n.owner.size ≤ 1099511627776) (hs : OwnS L) :
  Calls Tryz.prog 98 #[.slice A N c, .agg n.cells.toArray] w (RFound w n L) := by
 have HL := Lib.hid hL
 have HLN := Lib.hid hL.len
 have HNO := Lib.hid hn
 have HS := Lib.hid hs
 have HN := Lib.hid hN
 clear hL hn hs hN
 go_enter Tryz.func98, Tryz.ntmps98
 go_wp2_with (refine wpList_boxBlk rfl 57 (.tmp 1) rfl n.cells.toArray rfl ?_)
 intro w1 n1
 have F1 := Lib.hid n1.fr
 have NB0 := Lib.hid n1.blk
 clear n1
 generalize w.heap.size = gb at *
 have NB : Hid (Blk w1 gb 57 n.cells.toArray) := NB0.out
 clear NB0
 go_wp2
 go_loopw [6] (fun i wr => ∃ k : Nat, k ≤ N ∧ i = .int .i64 (k : Int) ∧ (∀ y ∈ L.take k, cmpN y.1 n < 0) ∧ Fr Nothing w1 wr) (fun i _ => N - (intOf i).toNat)
 case atStart => exact ⟨0, by omega, rfl, by simp, Fr.refl _ _⟩
 case round =>
  obtain ⟨k, hk, rfl, hlt, hfr⟩ := hrel
  have HLT := Lib.hid hlt
  have FW := Lib.hid hfr
  clear hlt hfr
  have nN : N ≤ 60000 := HN.out
  by_cases hkn : k < N
  ·have t1 : decide ((k : Int) < (N : Int)) = true := decide_eq_true (by omega)
   have t1' : (k : Int) < (N : Int) := by omega
   have t0 : (0 : Int) ≤ (k : Int) := by omega
   obtain ⟨ad, x, rfl, hx, hc⟩ := (HL.out.fr0 (F1.out.trans FW.out)).at_ hkn
   have HX := Lib.hid hx
   have HC := Lib.hid hc
   have HXM : Hid (x ∈ L) := List.mem_of_getElem? hx
   have CC : Hid (∀ w', Calls Tryz.prog 103 #[.agg x.1.cells.toArray, .agg n.cells.toArray] w' (Same' w' (.int .i64 (cmpN x.1 n)))) := fun w' => rCompare_any x.1 n w' (HS.out x HXM.out) HNO.out
   obtain ⟨cc, hcc⟩ : ∃ cc, cc = cmpN x.1 n := ⟨_, rfl⟩
   rw [← hcc] at CC
   have HCC := Lib.hid hcc
   clear hx hc hcc
   by_cases hneg : cc < 0
   ·have t2 : decide (cc < 0) = true := decide_eq_true hneg
    have HNEG := Lib.hid hneg
    clear hneg
    go_upto_region 2 with fail
    refine wp_region_st 14 Nothing [Is (.int .i64 (k : Int)), Is (.slice (some ad) N c), Is (.int .i64 (N : Int)), Is (.bool true), Is (.bool true), Is (.slice (some ad) N c), Is (.int .i64 (k : Int)), Is (.pointer (some (ad.add (k * 6)))), Is (.pointer (some (ad.add (k * 6)))), Is (.agg x.1.cells.toArray), Is (.agg n.cells.toArray), Is (.int .i64 cc), Is (.bool true), Is (.bool true)] [] (fun _ => True) (fun _ _ => false) (by kernel_rfl) (by kernel_rfl) (by kernel_rfl) (by kernel_rfl) ⟨Is.stable _, Is.stable _, Is.stable _, Is.stable _, Is.stable _, Is.stable _, Is.stable _, Is.stable _, Is.stable _, Is.stable _, Is.stable _, Is.stable _, Is.stable _, Is.stable _, trivial⟩ trivial (fun _ _ _ _ h => h) trivial ?_ ?_
    ·refine ⟨?a11_0, ?a11_1, ?a11_2, ?a11_3, ?a11_4, ?a11_5, ?a11_6, ?a11_7, ?a11_8, ?a11_9, ?a11_10, ?a11_11, ?a11_12, ?a11_13, trivial⟩
     all_goals intro u w' d hf hR k1 k0 kM
     all_goals simp only [List.take_succ_cons, List.take_zero, List.map_cons, List.map_nil, puts, Act.put, List.setIfInBounds_toArray, List.set_cons_zero, List.set_cons_succ, Nat.reduceAdd, Nat.zero_add]
     case' a11_2 => simp only [show u 1 = _ from hR 1 (by kernel_rfl)]
     case' a11_3 => simp only [show u 0 = _ from hR 0 (by kernel_rfl), show u 2 = _ from hR 2 (by kernel_rfl)]
     case' a11_4 => simp only [show u 3 = _ from hR 3 (by kernel_rfl)]
     case' a11_5 => simp only [show u 4 = _ from hR 4 (by kernel_rfl)]
     case' a11_6 => simp only [show u 4 = _ from hR 4 (by kernel_rfl)]
     case' a11_7 => simp only [show u 5 = _ from hR 5 (by kernel_rfl), show u 6 = _ from hR 6 (by kernel_rfl), show u 4 = _ from hR 4 (by kernel_rfl)]
     case' a11_8 => simp only [show u 7 = _ from hR 7 (by kernel_rfl), show u 4 = _ from hR 4 (by kernel_rfl)]
     case a11_9 =>
      simp only [show u 8 = _ from hR 8 (by kernel_rfl), show u 4 = _ from hR 4 (by kernel_rfl)]
      clear hR k1 k0 kM
      refine .inl ⟨by kernel_rfl, ?_⟩
      exact wp_load_add _ _ rfl (ad.add (k * 6)) rfl x.1.cells _ (fun j v hv => hf.cellSome (HC.out j v (by rw [entC, List.getElem?_append_left (List.getElem?_eq_some_iff.1 hv).1]; exact hv)) (fun x => x)) Tryz.underlying57 rfl infoN ⟨_, rfl, Fr.refl _ _, rfl, trivial⟩
     case a11_10 =>
      simp only [show u 4 = _ from hR 4 (by kernel_rfl)]
      clear hR k1 k0 kM
      refine .inl ⟨by kernel_rfl, ?_⟩
      exact wp_load_add _ _ rfl ⟨gb, 0, none⟩ rfl n.cells _ (fun j x hx => (by rw [Addr.add_mid, Nat.zero_add]; exact (NB.out.fr (FW.out.trans hf) (fun x => x)).cell j |>.trans (by rw [List.getElem?_toArray]; exact hx))) Tryz.underlying57 rfl infoN ⟨_, rfl, Fr.refl _ _, rfl, trivial⟩
     case a11_11 =>
      simp only [show u 9 = _ from hR 9 (by kernel_rfl), show u 10 = _ from hR 10 (by kernel_rfl), show u 4 = _ from hR 4 (by kernel_rfl)]
      clear hR k1 k0 kM
      refine .inl ⟨by kernel_rfl, ?_⟩
      go_simp
      refine (CC.out _).mono ?_
      rintro e w4 ⟨rfl, f4⟩
      exact ⟨_, rfl, f4.weak, rfl, trivial⟩
     case' a11_12 => simp only [show u 11 = _ from hR 11 (by kernel_rfl), show u 4 = _ from hR 4 (by kernel_rfl)]
     case' a11_13 => simp only [show u 4 = _ from hR 4 (by kernel_rfl), show u 12 = _ from hR 12 (by kernel_rfl)]
     all_goals
      clear hR k1 k0 kM
      refine .inl ⟨by kernel_rfl, ?_⟩
      go_simp
      exact ⟨_, rfl, Fr.refl _ _, rfl, trivial⟩
    ·intro u w' hf hR kM
     have k13 : u 13 = _ := hR 13 (by omega)
     clear hR kM
     simp only [List.take_succ_cons, List.take_zero, List.map_cons, List.map_nil, puts, Act.put, List.setIfInBounds_toArray, List.set_cons_zero, List.set_cons_succ, List.drop_succ_cons, List.drop_zero, Nat.reduceAdd, Nat.zero_add, k13]
     have FA := Lib.hid hf
     clear hf k13
     go_wp2
     go_roundw
     case rel =>
      refine ⟨k + 1, by omega, by go_num, fun y hy => ?_, FW.out.trans FA.out⟩
      rw [List.take_add_one, HX.out, Option.toList_some, List.mem_append, List.mem_singleton] at hy
      rcases hy with hy | rfl
      ·exact HLT.out y hy
      ·have := HNEG.out; rw [HCC.out] at this; exact this
     case measure => simp [intOf]; omega
   ·have t2 : decide (cc < 0) = false := decide_eq_false hneg
    have HNEG := Lib.hid hneg
    clear hneg
    go_upto_region 2 with fail
    refine wp_region_st 14 Nothing [Is (.int .i64 (k : Int)), Is (.slice (some ad) N c), Is (.int .i64 (N : Int)), Is (.bool true), Is (.bool true), Is (.slice (some ad) N c), Is (.int .i64 (k : Int)), Is (.pointer (some (ad.add (k * 6)))), Is (.pointer (some (ad.add (k * 6)))), Is (.agg x.1.cells.toArray), Is (.agg n.cells.toArray), Is (.int .i64 cc), Is (.bool false), Is (.bool false)] [] (fun _ => True) (fun _ _ => false) (by kernel_rfl) (by kernel_rfl) (by kernel_rfl) (by kernel_rfl) ⟨Is.stable _, Is.stable _, Is.stable _, Is.stable _, Is.stable _, Is.stable _, Is.stable _, Is.stable _, Is.stable _, Is.stable _, Is.stable _, Is.stable _, Is.stable _, Is.stable _, trivial⟩ trivial (fun _ _ _ _ h => h) trivial ?_ ?_
    ·refine ⟨?a12_0, ?a12_1, ?a12_2, ?a12_3, ?a12_4, ?a12_5, ?a12_6, ?a12_7, ?a12_8, ?a12_9, ?a12_10, ?a12_11, ?a12_12, ?a12_13, trivial⟩
     all_goals intro u w' d hf hR k1 k0 kM
     all_goals simp only [List.take_succ_cons, List.take_zero, List.map_cons, List.map_nil, puts, Act.put, List.setIfInBounds_toArray, List.set_cons_zero, List.set_cons_succ, Nat.reduceAdd, Nat.zero_add]
     case' a12_2 => simp only [show u 1 = _ from hR 1 (by kernel_rfl)]
     case' a12_3 => simp only [show u 0 = _ from hR 0 (by kernel_rfl), show u 2 = _ from hR 2 (by kernel_rfl)]
     case' a12_4 => simp only [show u 3 = _ from hR 3 (by kernel_rfl)]
     case' a12_5 => simp only [show u 4 = _ from hR 4 (by kernel_rfl)]
     case' a12_6 => simp only [show u 4 = _ from hR 4 (by kernel_rfl)]
     case' a12_7 => simp only [show u 5 = _ from hR 5 (by kernel_rfl), show u 6 = _ from hR 6 (by kernel_rfl), show u 4 = _ from hR 4 (by kernel_rfl)]
     case' a12_8 => simp only [show u 7 = _ from hR 7 (by kernel_rfl), show u 4 = _ from hR 4 (by kernel_rfl)]
     case a12_9 =>
      simp only [show u 8 = _ from hR 8 (by kernel_rfl), show u 4 = _ from hR 4 (by kernel_rfl)]
      clear hR k1 k0 kM
      refine .inl ⟨by kernel_rfl, ?_⟩
      exact wp_load_add _ _ rfl (ad.add (k * 6)) rfl x.1.cells _ (fun j v hv => hf.cellSome (HC.out j v (by rw [entC, List.getElem?_append_left (List.getElem?_eq_some_iff.1 hv).1]; exact hv)) (fun x => x)) Tryz.underlying57 rfl infoN ⟨_, rfl, Fr.refl _ _, rfl, trivial⟩
     case a12_10 =>
      simp only [show u 4 = _ from hR 4 (by kernel_rfl)]
      clear hR k1 k0 kM
      refine .inl ⟨by kernel_rfl, ?_⟩
      exact wp_load_add _ _ rfl ⟨gb, 0, none⟩ rfl n.cells _ (fun j x hx => (by rw [Addr.add_mid, Nat.zero_add]; exact (NB.out.fr (FW.out.trans hf) (fun x => x)).cell j |>.trans (by rw [List.getElem?_toArray]; exact hx))) Tryz.underlying57 rfl infoN ⟨_, rfl, Fr.refl _ _, rfl, trivial⟩
     case a12_11 =>
      simp only [show u 9 = _ from hR 9 (by kernel_rfl), show u 10 = _ from hR 10 (by kernel_rfl), show u 4 = _ from hR 4 (by kernel_rfl)]
      clear hR k1 k0 kM
      refine .inl ⟨by kernel_rfl, ?_⟩
      go_simp
      refine (CC.out _).mono ?_
      rintro e w4 ⟨rfl, f4⟩
      exact ⟨_, rfl, f4.weak, rfl, trivial⟩
     case' a12_12 => simp only [show u 11 = _ from hR 11 (by kernel_rfl), show u 4 = _ from hR 4 (by kernel_rfl)]
     case' a12_13 => simp only [show u 4 = _ from hR 4 (by kernel_rfl), show u 12 = _ from hR 12 (by kernel_rfl)]
     all_goals
      clear hR k1 k0 kM
      refine .inl ⟨by kernel_rfl, ?_⟩
      go_simp
      exact ⟨_, rfl, Fr.refl _ _, rfl, trivial⟩
    ·intro u w' hf hR kM
     have k13 : u 13 = _ := hR 13 (by omega)
     clear hR kM
     simp only [List.take_succ_cons, List.take_zero, List.map_cons, List.map_nil, puts, Act.put, List.setIfInBounds_toArray, List.set_cons_zero, List.set_cons_succ, List.drop_succ_cons, List.drop_zero, Nat.reduceAdd, Nat.zero_add, k13]
     have FA := Lib.hid hf
     clear hf k13
     go_wp2
     by_cases he : x.1 = n
     ·have EQ : Hid (∀ w, (binOp .eql 57 (.agg x.1.cells.toArray) (.agg n.cells.toArray)).run Tryz.prog w = .ok (.bool true) w) := fun w => by rw [he]; exact eqN_same n w
      have HE : Hid ((cmpN n x.1 == 0) = true) := by simp only [Hid]; rw [he, cmpN_is.refl]; rfl
      clear he
      go_upto_region 4 with fail
      refine wp_region_st 16 Nothing [Is (.int .i64 (k : Int)), Is (.int .i64 (k : Int)), Is (.slice (some ad) N c), Is (.int .i64 (N : Int)), Is (.bool true), Is (.bool true), Is (.slice (some ad) N c), Is (.int .i64 (k : Int)), Is (.pointer (some (ad.add (k * 6)))), Is (.pointer (some (ad.add (k * 6)))), Is (.agg x.1.cells.toArray), Is (.agg n.cells.toArray), Is (.bool true), Is (.bool true), Is (.int .i64 (k : Int)), Is (.bool true)] [] (fun _ => True) (fun _ _ => false) (by kernel_rfl) (by kernel_rfl) (by kernel_rfl) (by kernel_rfl) ⟨Is.stable _, Is.stable _, Is.stable _, Is.stable _, Is.stable _, Is.stable _, Is.stable _, Is.stable _, Is.stable _, Is.stable _, Is.stable _, Is.stable _, Is.stable _, Is.stable _, Is.stable _, Is.stable _, trivial⟩ trivial (fun _ _ _ _ h => h) trivial ?_ ?_
      ·refine ⟨?a13_0, ?a13_1, ?a13_2, ?a13_3, ?a13_4, ?a13_5, ?a13_6, ?a13_7, ?a13_8, ?a13_9, ?a13_10, ?a13_11, ?a13_12, ?a13_13, ?a13_14, ?a13_15, trivial⟩
       all_goals intro u w' d hf hR k1 k0 kM
       all_goals simp only [List.take_succ_cons, List.take_zero, List.map_cons, List.map_nil, puts, Act.put, List.setIfInBounds_toArray, List.set_cons_zero, List.set_cons_succ, Nat.reduceAdd, Nat.zero_add]
       case' a13_3 => simp only [show u 2 = _ from hR 2 (by kernel_rfl)]
       case' a13_4 => simp only [show u 1 = _ from hR 1 (by kernel_rfl), show u 3 = _ from hR 3 (by kernel_rfl)]
       case' a13_5 => simp only [show u 4 = _ from hR 4 (by kernel_rfl)]
       case' a13_6 => simp only [show u 5 = _ from hR 5 (by kernel_rfl)]
       case' a13_7 => simp only [show u 5 = _ from hR 5 (by kernel_rfl)]
       case' a13_8 => simp only [show u 6 = _ from hR 6 (by kernel_rfl), show u 7 = _ from hR 7 (by kernel_rfl), show u 5 = _ from hR 5 (by kernel_rfl)]
       case' a13_9 => simp only [show u 8 = _ from hR 8 (by kernel_rfl), show u 5 = _ from hR 5 (by kernel_rfl)]
       case a13_10 =>
        simp only [show u 9 = _ from hR 9 (by kernel_rfl), show u 5 = _ from hR 5 (by kernel_rfl)]
        clear hR k1 k0 kM
        refine .inl ⟨by kernel_rfl, ?_⟩
        exact wp_load_add _ _ rfl (ad.add (k * 6)) rfl x.1.cells _ (fun j v hv => (FA.out.trans hf).cellSome (HC.out j v (by rw [entC, List.getElem?_append_left (List.getElem?_eq_some_iff.1 hv).1]; exact hv)) (fun x => x)) Tryz.underlying57 rfl infoN ⟨_, rfl, Fr.refl _ _, rfl, trivial⟩
       case a13_11 =>
        simp only [show u 5 = _ from hR 5 (by kernel_rfl)]
        clear hR k1 k0 kM
        refine .inl ⟨by kernel_rfl, ?_⟩
        exact wp_load_add _ _ rfl ⟨gb, 0, none⟩ rfl n.cells _ (fun j x hx => (by rw [Addr.add_mid, Nat.zero_add]; exact (NB.out.fr ((FW.out.trans FA.out).trans hf) (fun x => x)).cell j |>.trans (by rw [List.getElem?_toArray]; exact hx))) Tryz.underlying57 rfl infoN ⟨_, rfl, Fr.refl _ _, rfl, trivial⟩
       case a13_12 =>
        simp only [show u 10 = _ from hR 10 (by kernel_rfl), show u 11 = _ from hR 11 (by kernel_rfl), show u 5 = _ from hR 5 (by kernel_rfl)]
        clear hR k1 k0 kM
        refine .inl ⟨by kernel_rfl, ?_⟩
        exact wp_binAgg _ _ _ _ _ rfl _ _ rfl rfl Tryz.eqGuardType57 _ (EQ.out _) ⟨_, rfl, Fr.refl _ _, rfl, trivial⟩
       case' a13_13 => simp only [show u 5 = _ from hR 5 (by kernel_rfl), show u 12 = _ from hR 12 (by kernel_rfl)]
       case' a13_14 => simp only [show u 0 = _ from hR 0 (by kernel_rfl)]
       case' a13_15 => simp only [show u 13 = _ from hR 13 (by kernel_rfl)]
       all_goals
        clear hR k1 k0 kM
        refine .inl ⟨by kernel_rfl, ?_⟩
        go_simp
        exact ⟨_, rfl, Fr.refl _ _, rfl, trivial⟩
      ·intro u w' hf hR kM
       have k14 : u 14 = _ := hR 14 (by omega)
       have k15 : u 15 = _ := hR 15 (by omega)
       clear hR kM
       simp only [List.take_succ_cons, List.take_zero, List.map_cons, List.map_nil, puts, Act.put, List.setIfInBounds_toArray, List.set_cons_zero, List.set_cons_succ, List.drop_succ_cons, List.drop_zero, Nat.reduceAdd, Nat.zero_add, k14, k15]
       have FB := Lib.hid (F1.out.trans ((FW.out.trans FA.out).trans hf))
       clear hf k14 k15
       go_wp2
       go_ret2
       exact ⟨k, true, rfl, FB.out, by have := HLN.out; omega, HLT.out, .inr ⟨x, HX.out, by have := HNEG.out; rw [HCC.out] at this; omega, HE.out.symm⟩⟩
     ·have EQ : Hid (∀ w, (binOp .eql 57 (.agg x.1.cells.toArray) (.agg n.cells.toArray)).run Tryz.prog w = .ok (.bool false) w) := fun w => eqN_ne _ _ he w
      have HE : Hid ((cmpN n x.1 == 0) = false) := by simp only [Hid]; rw [beq_eq_false_iff_ne]; exact fun e => he (cmpN_is.eq _ _ e).symm
      clear he
      go_upto_region 4 with fail
      refine wp_region_st 16 Nothing [Is (.int .i64 (k : Int)), Is (.int .i64 (k : Int)), Is (.slice (some ad) N c), Is (.int .i64 (N : Int)), Is (.bool true), Is (.bool true), Is (.slice (some ad) N c), Is (.int .i64 (k : Int)), Is (.pointer (some (ad.add (k * 6)))), Is (.pointer (some (ad.add (k * 6)))), Is (.agg x.1.cells.toArray), Is (.agg n.cells.toArray), Is (.bool false), Is (.bool false), Is (.int .i64 (k : Int)), Is (.bool false)] [] (fun _ => True) (fun _ _ => false) (by kernel_rfl) (by kernel_rfl) (by kernel_rfl) (by kernel_rfl) ⟨Is.stable _, Is.stable _, Is.stable _, Is.stable _, Is.stable _, Is.stable _, Is.stable _, Is.stable _, Is.stable _, Is.stable _, Is.stable _, Is.stable _, Is.stable _, Is.stable _, Is.stable _, Is.stable _, trivial⟩ trivial (fun _ _ _ _ h => h) trivial ?_ ?_
      ·refine ⟨?a14_0, ?a14_1, ?a14_2, ?a14_3, ?a14_4, ?a14_5, ?a14_6, ?a14_7, ?a14_8, ?a14_9, ?a14_10, ?a14_11, ?a14_12, ?a14_13, ?a14_14, ?a14_15, trivial⟩
       all_goals intro u w' d hf hR k1 k0 kM
       all_goals simp only [List.take_succ_cons, List.take_zero, List.map_cons, List.map_nil, puts, Act.put, List.setIfInBounds_toArray, List.set_cons_zero, List.set_cons_succ, Nat.reduceAdd, Nat.zero_add]
       case' a14_3 => simp only [show u 2 = _ from hR 2 (by kernel_rfl)]
       case' a14_4 => simp only [show u 1 = _ from hR 1 (by kernel_rfl), show u 3 = _ from hR 3 (by kernel_rfl)]
       case' a14_5 => simp only [show u 4 = _ from hR 4 (by kernel_rfl)]
       case' a14_6 => simp only [show u 5 = _ from hR 5 (by kernel_rfl)]
       case' a14_7 => simp only [show u 5 = _ from hR 5 (by kernel_rfl)]
       case' a14_8 => simp only [show u 6 = _ from hR 6 (by kernel_rfl), show u 7 = _ from hR 7 (by kernel_rfl), show u 5 = _ from hR 5 (by kernel_rfl)]
       case' a14_9 => simp only [show u 8 = _ from hR 8 (by kernel_rfl), show u 5 = _ from hR 5 (by kernel_rfl)]
       case a14_10 =>
        simp only [show u 9 = _ from hR 9 (by kernel_rfl), show u 5 = _ from hR 5 (by kernel_rfl)]
        clear hR k1 k0 kM
        refine .inl ⟨by kernel_rfl, ?_⟩
        exact wp_load_add _ _ rfl (ad.add (k * 6)) rfl x.1.cells _ (fun j v hv => (FA.out.trans hf).cellSome (HC.out j v (by rw [entC, List.getElem?_append_left (List.getElem?_eq_some_iff.1 hv).1]; exact hv)) (fun x => x)) Tryz.underlying57 rfl infoN ⟨_, rfl, Fr.refl _ _, rfl, trivial⟩
       case a14_11 =>
        simp only [show u 5 = _ from hR 5 (by kernel_rfl)]
        clear hR k1 k0 kM
        refine .inl ⟨by kernel_rfl, ?_⟩
        exact wp_load_add _ _ rfl ⟨gb, 0, none⟩ rfl n.cells _ (fun j x hx => (by rw [Addr.add_mid, Nat.zero_add]; exact (NB.out.fr ((FW.out.trans FA.out).trans hf) (fun x => x)).cell j |>.trans (by rw [List.getElem?_toArray]; exact hx))) Tryz.underlying57 rfl infoN ⟨_, rfl, Fr.refl _ _, rfl, trivial⟩
       case a14_12 =>
        simp only [show u 10 = _ from hR 10 (by kernel_rfl), show u 11 = _ from hR 11 (by kernel_rfl), show u 5 = _ from hR 5 (by kernel_rfl)]
        clear hR k1 k0 kM
        refine .inl ⟨by kernel_rfl, ?_⟩
        exact wp_binAgg _ _ _ _ _ rfl _ _ rfl rfl Tryz.eqGuardType57 _ (EQ.out _) ⟨_, rfl, Fr.refl _ _, rfl, trivial⟩
       case' a14_13 => simp only [show u 5 = _ from hR 5 (by kernel_rfl), show u 12 = _ from hR 12 (by kernel_rfl)]
       case' a14_14 => simp only [show u 0 = _ from hR 0 (by kernel_rfl)]
       case' a14_15 => simp only [show u 13 = _ from hR 13 (by kernel_rfl)]
       all_goals
        clear hR k1 k0 kM
        refine .inl ⟨by kernel_rfl, ?_⟩
        go_simp
        exact ⟨_, rfl, Fr.refl _ _, rfl, trivial⟩
      ·intro u w' hf hR kM
       have k14 : u 14 = _ := hR 14 (by omega)
       have k15 : u 15 = _ := hR 15 (by omega)
       clear hR kM
       simp only [List.take_succ_cons, List.take_zero, List.map_cons, List.map_nil, puts, Act.put, List.setIfInBounds_toArray, List.set_cons_zero, List.set_cons_succ, List.drop_succ_cons, List.drop_zero, Nat.reduceAdd, Nat.zero_add, k14, k15]
       have FB := Lib.hid (F1.out.trans ((FW.out.trans FA.out).trans hf))
       clear hf k14 k15
       go_wp2
       go_ret2
       exact ⟨k, false, rfl, FB.out, by have := HLN.out; omega, HLT.out, .inr ⟨x, HX.out, by have := HNEG.out; rw [HCC.out] at this; omega, HE.out.symm⟩⟩
  ·obtain rfl : k = N := by omega
   have t1 : decide ((k : Int) < (k : Int)) = false := decide_eq_false (by omega)
   go_upto_region 2 with fail
   refine wp_region_st 14 Nothing [Is (.int .i64 (k : Int)), Is (.slice A k c), Is (.int .i64 (k : Int)), Is (.bool false), Is (.bool false), Is (undef), Is (undef), Is (undef), Is (undef), Is (undef), Is (undef), Is (undef), Is (undef), Is (.bool false)] [] (fun _ => True) (fun _ _ => false) (by kernel_rfl) (by kernel_rfl) (by kernel_rfl) (by kernel_rfl) ⟨Is.stable _, Is.stable _, Is.stable _, Is.stable _, Is.stable _, Is.stable _, Is.stable _, Is.stable _, Is.stable _, Is.stable _, Is.stable _, Is.stable _, Is.stable _, Is.stable _, trivial⟩ trivial (fun _ _ _ _ h => h) trivial ?_ ?_
   ·refine ⟨?a15_0, ?a15_1, ?a15_2, ?a15_3, ?a15_4, ?a15_5, ?a15_6, ?a15_7, ?a15_8, ?a15_9, ?a15_10, ?a15_11, ?a15_12, ?a15_13, trivial⟩
    all_goals intro u w' d hf hR k1 k0 kM
    all_goals simp only [List.take_succ_cons, List.take_zero, List.map_cons, List.map_nil, puts, Act.put, List.setIfInBounds_toArray, List.set_cons_zero, List.set_cons_succ, Nat.reduceAdd, Nat.zero_add]
    case' a15_2 => simp only [show u 1 = _ from hR 1 (by kernel_rfl)]
    case' a15_3 => simp only [show u 0 = _ from hR 0 (by kernel_rfl), show u 2 = _ from hR 2 (by kernel_rfl)]
    case' a15_4 => simp only [show u 3 = _ from hR 3 (by kernel_rfl)]
    case a15_5 => simp only [show u 4 = _ from hR 4 (by kernel_rfl)]; exact .inr ⟨by kernel_rfl, _, rfl, Fr.refl _ _, rfl, trivial⟩
    case a15_6 => simp only [show u 4 = _ from hR 4 (by kernel_rfl)]; exact .inr ⟨by kernel_rfl, _, rfl, Fr.refl _ _, rfl, trivial⟩
    case a15_7 => simp only [show u 4 = _ from hR 4 (by kernel_rfl)]; exact .inr ⟨by kernel_rfl, _, rfl, Fr.refl _ _, rfl, trivial⟩
    case a15_8 => simp only [show u 4 = _ from hR 4 (by kernel_rfl)]; exact .inr ⟨by kernel_rfl, _, rfl, Fr.refl _ _, rfl, trivial⟩
    case a15_9 => simp only [show u 4 = _ from hR 4 (by kernel_rfl)]; exact .inr ⟨by kernel_rfl, _, rfl, Fr.refl _ _, rfl, trivial⟩
    case a15_10 => simp only [show u 4 = _ from hR 4 (by kernel_rfl)]; exact .inr ⟨by kernel_rfl, _, rfl, Fr.refl _ _, rfl, trivial⟩
    case a15_11 => simp only [show u 4 = _ from hR 4 (by kernel_rfl)]; exact .inr ⟨by kernel_rfl, _, rfl, Fr.refl _ _, rfl, trivial⟩
    case a15_12 => simp only [show u 4 = _ from hR 4 (by kernel_rfl)]; exact .inr ⟨by kernel_rfl, _, rfl, Fr.refl _ _, rfl, trivial⟩
    case' a15_13 => simp only [show u 4 = _ from hR 4 (by kernel_rfl), show u 12 = _ from hR 12 (by kernel_rfl)]
    all_goals
     clear hR k1 k0 kM
     refine .inl ⟨by kernel_rfl, ?_⟩
     go_simp
     exact ⟨_, rfl, Fr.refl _ _, rfl, trivial⟩
   ·intro u w' hf hR kM
    have k13 : u 13 = _ := hR 13 (by omega)
    clear hR kM
    simp only [List.take_succ_cons, List.take_zero, List.map_cons, List.map_nil, puts, Act.put, List.setIfInBounds_toArray, List.set_cons_zero, List.set_cons_succ, List.drop_succ_cons, List.drop_zero, Nat.reduceAdd, Nat.zero_add, k13]
    have FA := Lib.hid hf
    clear hf k13
    go_wp2
    go_upto_region 4 with fail
    refine wp_region_st 16 Nothing [Is (.int .i64 (k : Int)), Is (.int .i64 (k : Int)), Is (.slice A k c), Is (.int .i64 (k : Int)), Is (.bool false), Is (.bool false), Is (undef), Is (undef), Is (undef), Is (undef), Is (undef), Is (undef), Is (undef), Is (.bool false), Is (.int .i64 (k : Int)), Is (.bool false)] [] (fun _ => True) (fun _ _ => false) (by kernel_rfl) (by kernel_rfl) (by kernel_rfl) (by kernel_rfl) ⟨Is.stable _, Is.stable _, Is.stable _, Is.stable _, Is.stable _, Is.stable _, Is.stable _, Is.stable _, Is.stable _, Is.stable _, Is.stable _, Is.stable _, Is.stable _, Is.stable _, Is.stable _, Is.stable _, trivial⟩ trivial (fun _ _ _ _ h => h) trivial ?_ ?_
    ·refine ⟨?a16_0, ?a16_1, ?a16_2, ?a16_3, ?a16_4, ?a16_5, ?a16_6, ?a16_7, ?a16_8, ?a16_9, ?a16_10, ?a16_11, ?a16_12, ?a16_13, ?a16_14, ?a16_15, trivial⟩
     all_goals intro u w' d hf hR k1 k0 kM
     all_goals simp only [List.take_succ_cons, List.take_zero, List.map_cons, List.map_nil, puts, Act.put, List.setIfInBounds_toArray, List.set_cons_zero, List.set_cons_succ, Nat.reduceAdd, Nat.zero_add]
     case' a16_3 => simp only [show u 2 = _ from hR 2 (by kernel_rfl)]
     case' a16_4 => simp only [show u 1 = _ from hR 1 (by kernel_rfl), show u 3 = _ from hR 3 (by kernel_rfl)]
     case' a16_5 => simp only [show u 4 = _ from hR 4 (by kernel_rfl)]
     case a16_6 => simp only [show u 5 = _ from hR 5 (by kernel_rfl)]; exact .inr ⟨by kernel_rfl, _, rfl, Fr.refl _ _, rfl, trivial⟩
     case a16_7 => simp only [show u 5 = _ from hR 5 (by kernel_rfl)]; exact .inr ⟨by kernel_rfl, _, rfl, Fr.refl _ _, rfl, trivial⟩
     case a16_8 => simp only [show u 5 = _ from hR 5 (by kernel_rfl)]; exact .inr ⟨by kernel_rfl, _, rfl, Fr.refl _ _, rfl, trivial⟩
     case a16_9 => simp only [show u 5 = _ from hR 5 (by kernel_rfl)]; exact .inr ⟨by kernel_rfl, _, rfl, Fr.refl _ _, rfl, trivial⟩
     case a16_10 => simp only [show u 5 = _ from hR 5 (by kernel_rfl)]; exact .inr ⟨by kernel_rfl, _, rfl, Fr.refl _ _, rfl, trivial⟩
     case a16_11 => simp only [show u 5 = _ from hR 5 (by kernel_rfl)]; exact .inr ⟨by kernel_rfl, _, rfl, Fr.refl _ _, rfl, trivial⟩
     case a16_12 => simp only [show u 5 = _ from hR 5 (by kernel_rfl)]; exact .inr ⟨by kernel_rfl, _, rfl, Fr.refl _ _, rfl, trivial⟩
     case' a16_13 => simp only [show u 5 = _ from hR 5 (by kernel_rfl), show u 12 = _ from hR 12 (by kernel_rfl)]
     case' a16_14 => simp only [show u 0 = _ from hR 0 (by kernel_rfl)]
     case' a16_15 => simp only [show u 13 = _ from hR 13 (by kernel_rfl)]
     all_goals
      clear hR k1 k0 kM
      refine .inl ⟨by kernel_rfl, ?_⟩
      go_simp
      exact ⟨_, rfl, Fr.refl _ _, rfl, trivial⟩
    ·intro u w' hf hR kM
     have k14 : u 14 = _ := hR 14 (by omega)
     have k15 : u 15 = _ := hR 15 (by omega)
     clear hR kM
     simp only [List.take_succ_cons, List.take_zero, List.map_cons, List.map_nil, puts, Act.put, List.setIfInBounds_toArray, List.set_cons_zero, List.set_cons_succ, List.drop_succ_cons, List.drop_zero, Nat.reduceAdd, Nat.zero_add, k14, k15]
     have FB := Lib.hid (F1.out.trans ((FW.out.trans FA.out).trans hf))
     clear hf k14 k15
     go_wp2
     go_ret2
     exact ⟨k, false, rfl, FB.out, by have := HLN.out; omega, HLT.out, .inl ⟨HLN.out.symm, rfl⟩⟩
end Go.Proofs.YtpnchdgplpdefaaGreatDoor
