/- State: the program's Diff (written by genSbW.py). -/
import Derived.Test.YtpnchdgplpdefaaGreatDoorEnSbU
import Derived.LaidEqlPtr
namespace Go.Proofs.YtpnchdgplpdefaaGreatDoor
open Go.RowKit Go.Shelf
theorem builtDs (y : Ent) : Tryz.prog.built 55 [(0, .agg y.1.cells.toArray), (1, .string y.2)] = some (setC y).cells.toArray := by kernel_rfl
theorem builtDd (x : Ent) : Tryz.prog.built 55 [(0, .agg x.1.cells.toArray), (2, .bool true)] = some (dropC x).cells.toArray := by kernel_rfl
def Diffed (w : World) (D : List CV) (e : Ending) (w' : World) : Prop := ∃ v, e = .returned v ∧ Grew 55 7 w (.slice none 0 0) w' v D.length (D.flatMap CV.cells)
theorem NdAt.fr0 {w w' : World} {x : Nd} (h : NdAt w x) (hf : Fr Nothing w w') : NdAt w' x := by
 obtain ⟨a, b, c, d, e, hb⟩ := h
 exact ⟨a, b, c, d, e, hb.fr hf (fun x => x)⟩
def ndE (x : Nd) : Ent := (x.nm, x.v)
def lenOfV : Value → Nat
 | .slice _ n _ => n
 | _ => 0
structure PL (w : World) (A : Option Addr) (n c : Nat) (L : List Nd) : Prop where
 rd : Rd w (fun _ => True) 1 A n (L.map ptrN)
 len : L.length = n
 cap : n ≤ c
 most : c ≤ maxLen
 at_ : ∀ x ∈ L, NdAt w x
 own : ∀ x ∈ L, x.nm.owner.size ≤ 1099511627776
theorem PL.fr0 {w w' : World} {A : Option Addr} {n c : Nat} {L : List Nd} (h : PL w A n c L) (hf : Fr Nothing w w') : PL w' A n c L := ⟨h.rd.fr0 hf, h.len, h.cap, h.most, fun x hx => (h.at_ x hx).fr0 hf, h.own⟩
theorem PL.head {w : World} {A : Option Addr} {n c : Nat} {x : Nd} {L : List Nd} (h : PL w A n c (x :: L)) : ∃ ad, A = some ad ∧ w.cell? ad = some (.pointer (some ⟨x.g, 0, none⟩)) ∧ 0 < n := by
 have hn : 0 < n := by have := h.len; simp only [List.length_cons] at this; omega
 obtain ⟨ad, e, _, hc⟩ := h.rd.2 hn
 exact ⟨ad, e, by have q := hc 0 _ rfl; simpa [Addr.add, ptrN] using q, hn⟩
theorem PL.tail {w : World} {ad : Addr} {n c : Nat} {x : Nd} {L : List Nd} (h : PL w (some ad) n c (x :: L)) : PL w (if c = 1 then some ad else some (ad.add 1)) (n - 1) (c - 1) L := by
 have hl := h.len
 simp only [List.length_cons] at hl
 refine ⟨⟨by rw [List.length_map]; omega, fun h0 => ?_⟩, by omega, by have := h.cap; omega, by have := h.most; omega, fun y hy => h.at_ y (by simp [hy]), fun y hy => h.own y (by simp [hy])⟩
 have hc1 : ¬ c = 1 := by have := h.cap; omega
 obtain ⟨ad', e, _, hc⟩ := h.rd.2 (by omega)
 cases e
 rw [if_neg hc1]
 refine ⟨_, rfl, trivial, fun j u hj => ?_⟩
 have q := hc (1 + j) u (by rw [List.map_cons, Nat.add_comm, List.getElem?_cons_succ]; exact hj)
 rw [add_of_add]
 exact q
def PtrOk (w : World) (a : Option Addr) : Prop := a = none ∨ ∃ g cs, a = some ⟨g, 0, none⟩ ∧ Blk w g 69 cs
theorem PtrOk.fr0 {w w' : World} {a : Option Addr} (h : PtrOk w a) (hf : Fr Nothing w w') : PtrOk w' a := by
 rcases h with h | ⟨g, cs, h, hb⟩
 ·exact .inl h
 ·exact .inr ⟨g, cs, h, hb.fr hf (fun x => x)⟩
theorem NdAt.ptr {w : World} {x : Nd} (h : NdAt w x) : PtrOk w (some ⟨x.g, 0, none⟩) := by
 obtain ⟨a, b, c, d, e, hb⟩ := h
 exact .inr ⟨_, _, rfl, hb⟩
theorem NodH.ptr {w : World} : ∀ {a : Option Addr} {t : Tr}, NodH w a t → PtrOk w a
 | _, .leaf, h => .inl h
 | _, .node _ _ _ _, ⟨g, _, _, e, _, _, hb⟩ => .inr ⟨g, _, e, hb⟩
theorem infoNode11 : (Tryz.prog.info? 69).map (·.size) = some 11 := by kernel_rfl
theorem equalPN (fa ta : Option Addr) (w : World) (h1 : PtrOk w fa) (h2 : PtrOk w ta) : (Op.equal 66 (.pointer fa) (.pointer ta)).run Tryz.prog w = .ok (decide (fa = ta)) w := by
 have hp := Tryz.underlying66
 obtain ⟨j, hj, hs⟩ : ∃ j, Tryz.prog.info? 69 = some j ∧ j.size = 11 := by
  have h := infoNode11
  cases hx : Tryz.prog.info? 69 with
  | none => rw [hx] at h; cases h
  | some j => rw [hx] at h; exact ⟨j, rfl, by simpa using h⟩
 have hz : j.size ≠ 0 := by omega
 have h : ∀ d : Nat, (Op.equalIn (d + 1) 66 (.pointer fa) (.pointer ta)).run Tryz.prog w = .ok (decide (fa = ta)) w := fun d => by
  rcases h1 with rfl | ⟨g, cs, rfl, hb⟩
  ·rcases h2 with rfl | ⟨g', cs', rfl, hb'⟩
   ·simp [Op.equalIn, run_underlying hp]
   ·simp [Op.equalIn, run_underlying hp]
  ·rcases h2 with rfl | ⟨g', cs', rfl, hb'⟩
   ·simp [Op.equalIn, run_underlying hp]
   ·by_cases hg : g = g'
    ·subst hg
     simp [Op.equalIn, run_underlying hp, sizeOf, typeInfo, hj, run_sameAddr_same]
    ·have hne : (⟨g, 0, none⟩ : Addr) ≠ ⟨g', 0, none⟩ := fun e => hg (by cases e; rfl)
     simp [Op.equalIn, run_underlying hp, sizeOf, typeInfo, hj, hz, run_sameAddr_other w hne hb hb']
 simp [Op.equal, Op.maxDepth, h 9999]
theorem eqlPN (fa ta : Option Addr) (w : World) (h1 : PtrOk w fa) (h2 : PtrOk w ta) (b : Bool) (hb : decide (fa = ta) = b) : (binOp .eql 66 (.pointer fa) (.pointer ta)).run Tryz.prog w = .ok (.bool b) w := by
 simp only [binOp]
 simp [equalPN fa ta w h1 h2, hb]
theorem neqPN (fa ta : Option Addr) (w : World) (h1 : PtrOk w fa) (h2 : PtrOk w ta) (b : Bool) (hb : decide (fa = ta) = !b) : (binOp .neq 66 (.pointer fa) (.pointer ta)).run Tryz.prog w = .ok (.bool b) w := by
 simp only [binOp]
 simp [equalPN fa ta w h1 h2, hb]
theorem NodH.uniq {w : World} : ∀ {a : Option Addr} {t t' : Tr}, NodH w a t → NodH w a t' → t = t'
 | _, .leaf, .leaf, _, _ => rfl
 | _, .leaf, .node _ _ _ _, h, ⟨_, _, _, e, _⟩ => by cases h; cases e
 | _, .node _ _ _ _, .leaf, ⟨_, _, _, e, _⟩, h => by cases h; cases e
 | _, .node l nm v r, .node l' nm' v' r', ⟨g, la, ra, e, h1, h2, hb⟩, ⟨g', la', ra', e', h1', h2', hb'⟩ => by
  subst e
  cases e'
  have q : nodeC la ra (.node l nm v r) = nodeC la' ra' (.node l' nm' v' r') := by
   have h := hb.symm.trans hb'
   simpa using h
  obtain ⟨a1, a2, a3, a4, a5⟩ := nm
  obtain ⟨b1, b2, b3, b4, b5⟩ := nm'
  simp only [nodeC, NameV.cells, List.cons_append, List.nil_append, List.cons.injEq, Value.pointer.injEq, Value.int.injEq, Value.string.injEq, true_and] at q
  obtain ⟨rfl, rfl, rfl, rfl, rfl, rfl, rfl, rfl, _⟩ := q
  rw [h1.uniq h1', h2.uniq h2']
theorem own_cap {w : World} {base : Nat} {e : TypeId} {size n m c : Nat} {A : Option Addr} {xs : List Value} (h : w.ownsRow base e size (.slice A m c) n xs) : c ≤ maxLen := by
 rcases h.2 with ⟨h1, _⟩ | ⟨g, cap, cur, h1, _, _, _, h2, _⟩
 ·cases h1
  exact Nat.zero_le _
 ·cases h1
  exact h2
theorem PL.of {w : World} {A : Option Addr} {m c n : Nat} {L : List Nd} {M : List Ent} (h : w.ownsRow 0 66 1 (.slice A m c) n (L.map ptrN)) (hm : m = n) (hc : m ≤ c) (ha : ∀ x ∈ L, NdAt w x) (he : L.map ndE = M) (ho : OwnS M) : PL w A m c L := by
 subst hm
 refine ⟨(Rd.of_own h).any, ?_, hc, own_cap h, ha, fun x hx => ho (ndE x) ?_⟩
 ·have := h.1
  rw [List.length_map] at this
  omega
 ·rw [← he]
  exact List.mem_map_of_mem hx
theorem dif_lt {x : Nd} {ra rb : List Nd} (h : rb = [] ∨ ∃ y r, rb = y :: r ∧ cmpN x.nm y.nm < 0) : diffL ((x :: ra).map ndE) (rb.map ndE) = dropC (ndE x) :: diffL (ra.map ndE) (rb.map ndE) := by
 rcases h with rfl | ⟨y, r, rfl, h⟩
 ·rw [List.map_cons, List.map_nil, diffL]
 ·rw [List.map_cons, List.map_cons, diffL, if_pos (show cmpN (ndE x).1 (ndE y).1 < 0 from h)]
theorem dif_gt {y : Nd} {ra rb : List Nd} (h : ra = [] ∨ ∃ x r, ra = x :: r ∧ 0 < cmpN x.nm y.nm) : diffL (ra.map ndE) ((y :: rb).map ndE) = setC (ndE y) :: diffL (ra.map ndE) (rb.map ndE) := by
 rcases h with rfl | ⟨x, r, rfl, h⟩
 ·rw [List.map_cons, List.map_nil, diffL]
 ·rw [List.map_cons, List.map_cons, diffL, if_neg (show ¬ cmpN (ndE x).1 (ndE y).1 < 0 by show ¬ cmpN x.nm y.nm < 0; omega), if_pos (show 0 < cmpN (ndE x).1 (ndE y).1 from h)]
theorem dif_same {x y : Nd} {ra rb : List Nd} (hc : cmpN x.nm y.nm = 0) (h : (x.v == y.v) = true) : diffL ((x :: ra).map ndE) ((y :: rb).map ndE) = diffL (ra.map ndE) (rb.map ndE) := by
 rw [List.map_cons, List.map_cons, diffL, if_neg (show ¬ cmpN (ndE x).1 (ndE y).1 < 0 by show ¬ cmpN x.nm y.nm < 0; omega), if_neg (show ¬ 0 < cmpN (ndE x).1 (ndE y).1 by show ¬ 0 < cmpN x.nm y.nm; omega), if_pos (show ((ndE x).2 == (ndE y).2) = true from h)]
theorem dif_other {x y : Nd} {ra rb : List Nd} (hc : cmpN x.nm y.nm = 0) (h : (x.v == y.v) = false) : diffL ((x :: ra).map ndE) ((y :: rb).map ndE) = setC (ndE y) :: diffL (ra.map ndE) (rb.map ndE) := by
 rw [List.map_cons, List.map_cons, diffL, if_neg (show ¬ cmpN (ndE x).1 (ndE y).1 < 0 by show ¬ cmpN x.nm y.nm < 0; omega), if_neg (show ¬ 0 < cmpN (ndE x).1 (ndE y).1 by show ¬ 0 < cmpN x.nm y.nm; omega), if_neg (show ¬ ((ndE x).2 == (ndE y).2) = true by show ¬ (x.v == y.v) = true; rw [h]; decide)]
theorem mid_same {w : World} {g : Nat} {n m : NameV} {u v : ByteArray} (h : Mid w g n u) (k : Mid w g m v) : n = m ∧ u = v := by
 have e : u = v := by
  have h1 := h.val
  rw [k.val] at h1
  simpa using h1.symm
 refine ⟨?_, e⟩
 have hj : ∀ j x y, n.cells[j]? = some x → m.cells[j]? = some y → x = y := fun j x y hx hy => by
  have h1 := h.name j x hx
  rw [k.name j y hy] at h1
  simpa using h1.symm
 obtain ⟨a1, a2, a3, a4, a5⟩ := n
 obtain ⟨b1, b2, b3, b4, b5⟩ := m
 have q1 := hj 0 _ _ rfl rfl
 have q2 := hj 1 _ _ rfl rfl
 have q3 := hj 2 _ _ rfl rfl
 have q4 := hj 3 _ _ rfl rfl
 have q5 := hj 4 _ _ rfl rfl
 simp only [Value.int.injEq, Value.string.injEq, true_and] at q1 q2 q3 q4 q5
 rw [q1, q2, q3, q4, q5]
def DInv (w1 : World) (D : List CV) (cs a b : Value) (wr : World) : Prop := ∃ (A : Option Addr) (NA cA : Nat) (ra : List Nd) (B : Option Addr) (NB cB : Nat) (rb : List Nd) (done : List CV), a = .slice A NA cA ∧ b = .slice B NB cB ∧ PL w1 A NA cA ra ∧ PL w1 B NB cB rb ∧
 done ++ diffL (ra.map ndE) (rb.map ndE) = D ∧ Grew 55 7 w1 (.slice none 0 0) wr cs done.length (done.flatMap CV.cells)
set_option maxRecDepth 100000 in
set_option maxHeartbeats 8000000 in
theorem Diff_any (LA LB : List Ent) (s1 s2 : Nat) (w : World) (hA : StL w s1 LA) (hB : StL w s2 LB) (hNA : LA.length ≤ 60000) (hNB : LB.length ≤ 60000) (hoA : OwnS LA) (hoB : OwnS LB) :
  Calls Tryz.prog 40 #[.pointer (some ⟨s1, 0, none⟩), .pointer (some ⟨s2, 0, none⟩)] w (Diffed w (diffL LA LB)) := by
 obtain ⟨ic, hic, hzc, hc1, hc2⟩ := info_parts zinfoCh
 have gc1 : Hid (¬ 1 * ic.size > 2 ^ 24) := by simp only [Hid]; rw [hc1]; omega
 have gc2 : Hid (¬ 1 * ic.size = 0) := by simp only [Hid]; rw [hc1]; omega
 have gc3 : Hid (∀ c : CV, Instr.fill (fun i => some (i * ic.size, ic.size)) ((Array.range (1 * ic.size)).map (zeroC.cells[· % zeroC.cells.size]!)) [(0, .agg c.cells.toArray)] = some c.cells.toArray) := fun c => by rw [hc1]; exact fill_seven _ _ rfl (by simp [zeroC, Value.cells])
 obtain ⟨tA, ⟨fa, bA, nA⟩, eA⟩ := hA
 obtain ⟨tB, ⟨ta, bB, nB⟩, eB⟩ := hB
 have RA : Hid (w.cell? ⟨s1, 0, none⟩ = some (.pointer fa)) := bA.cell 0
 have RB : Hid (w.cell? ⟨s2, 0, none⟩ = some (.pointer ta)) := bB.cell 0
 have OA : Hid (PtrOk w fa) := nA.ptr
 have OB : Hid (PtrOk w ta) := nB.ptr
 have HSA : Hid (StH w s1 tA) := ⟨fa, bA, nA⟩
 have HSB : Hid (StH w s2 tB) := ⟨ta, bB, nB⟩
 have HOA := Lib.hid hoA
 have HOB := Lib.hid hoB
 have HZA : Hid (tA.size = LA.length ∧ LA.length ≤ 60000) := ⟨by rw [← tA.toL_length, eA], hNA⟩
 have HZB : Hid (tB.size = LB.length ∧ LB.length ≤ 60000) := ⟨by rw [← tB.toL_length, eB], hNB⟩
 have HEA := Lib.hid eA
 have HEB := Lib.hid eB
 have HDL : Hid ((diffL LA LB).length ≤ 120000) := by have := diff_length LA LB; simp only [Hid]; omega
 obtain ⟨D, hD0⟩ : ∃ D, diffL LA LB = D := ⟨_, rfl⟩
 have HD0 := Lib.hid hD0
 rw [hD0] at HDL
 rw [hD0]
 have HUN : Hid (fa = ta → D = []) := fun h => by
  rw [← hD0]
  subst h
  rw [← eA, ← eB, nA.uniq nB]
  exact diff_self _
 clear hD0 bA nA bB nB eA eB hoA hoB hNA hNB
 go_enter Tryz.func40, Tryz.ntmps40
 by_cases hr : fa = ta
 ·have HU0 := Lib.hid (HUN.out hr)
  subst hr
  rw [HU0.out]
  go_upto_region 1 with fail
  refine wp_region_st 17 Nothing [Is (.pointer (some ⟨s1, 0, none⟩)), Is (.bool false), Is (.bool false), Is (.pointer (some ⟨s2, 0, none⟩)), Is (.bool false), Is (.bool false), Is (.bool false), Is (.pointer (some ⟨s1, 0, none⟩)), Is (.pointer (some ⟨s1, 0, none⟩)), Is (.pointer (some ⟨s1, 0, none⟩)), Is (.pointer fa), Is (.pointer (some ⟨s2, 0, none⟩)), Is (.pointer (some ⟨s2, 0, none⟩)), Is (.pointer (some ⟨s2, 0, none⟩)), Is (.pointer fa), Is (.bool true), Is (.bool true)] [] (fun _ => True) (fun _ _ => false) (by kernel_rfl) (by kernel_rfl) (by kernel_rfl) (by kernel_rfl) ⟨Is.stable _, Is.stable _, Is.stable _, Is.stable _, Is.stable _, Is.stable _, Is.stable _, Is.stable _, Is.stable _, Is.stable _, Is.stable _, Is.stable _, Is.stable _, Is.stable _, Is.stable _, Is.stable _, Is.stable _, trivial⟩ trivial (fun _ _ _ _ h => h) trivial ?_ ?_
  ·refine ⟨?a11_0, ?a11_1, ?a11_2, ?a11_3, ?a11_4, ?a11_5, ?a11_6, ?a11_7, ?a11_8, ?a11_9, ?a11_10, ?a11_11, ?a11_12, ?a11_13, ?a11_14, ?a11_15, ?a11_16, trivial⟩
   all_goals intro u w' d hf hR k1 k0 kM
   all_goals simp only [List.take_succ_cons, List.take_zero, List.map_cons, List.map_nil, puts, Act.put, List.setIfInBounds_toArray, List.set_cons_zero, List.set_cons_succ, Nat.reduceAdd, Nat.zero_add]
   case' a11_1 => simp only [show u 0 = _ from hR 0 (by kernel_rfl)]
   case' a11_2 => simp only [show u 1 = _ from hR 1 (by kernel_rfl)]
   case' a11_3 => simp only [show u 2 = _ from hR 2 (by kernel_rfl)]
   case' a11_4 => simp only [show u 3 = _ from hR 3 (by kernel_rfl), show u 2 = _ from hR 2 (by kernel_rfl)]
   case' a11_5 => simp only [show u 2 = _ from hR 2 (by kernel_rfl), show u 4 = _ from hR 4 (by kernel_rfl)]
   case' a11_6 => simp only [show u 5 = _ from hR 5 (by kernel_rfl)]
   case' a11_7 => simp only [show u 6 = _ from hR 6 (by kernel_rfl)]
   case' a11_8 => simp only [show u 7 = _ from hR 7 (by kernel_rfl), show u 6 = _ from hR 6 (by kernel_rfl)]
   case' a11_9 => simp only [show u 8 = _ from hR 8 (by kernel_rfl), show u 6 = _ from hR 6 (by kernel_rfl)]
   case a11_10 =>
    simp only [show u 9 = _ from hR 9 (by kernel_rfl), show u 6 = _ from hR 6 (by kernel_rfl)]
    clear hR k1 k0 kM
    refine .inl ⟨by kernel_rfl, ?_⟩
    have q := hf.cellSome RA.out (fun x => x)
    go_simp
    exact ⟨_, rfl, Fr.refl _ _, rfl, trivial⟩
   case' a11_11 => simp only [show u 6 = _ from hR 6 (by kernel_rfl)]
   case' a11_12 => simp only [show u 11 = _ from hR 11 (by kernel_rfl), show u 6 = _ from hR 6 (by kernel_rfl)]
   case' a11_13 => simp only [show u 12 = _ from hR 12 (by kernel_rfl), show u 6 = _ from hR 6 (by kernel_rfl)]
   case a11_14 =>
    simp only [show u 13 = _ from hR 13 (by kernel_rfl), show u 6 = _ from hR 6 (by kernel_rfl)]
    clear hR k1 k0 kM
    refine .inl ⟨by kernel_rfl, ?_⟩
    have q := hf.cellSome RB.out (fun x => x)
    go_simp
    exact ⟨_, rfl, Fr.refl _ _, rfl, trivial⟩
   case a11_15 =>
    simp only [show u 10 = _ from hR 10 (by kernel_rfl), show u 14 = _ from hR 14 (by kernel_rfl), show u 6 = _ from hR 6 (by kernel_rfl)]
    clear hR k1 k0 kM
    refine .inl ⟨by kernel_rfl, ?_⟩
    have q := eqlPN fa fa w' (OA.out.fr0 hf) (OB.out.fr0 hf) true (decide_eq_true rfl)
    go_simp
    exact ⟨_, rfl, Fr.refl _ _, rfl, trivial⟩
   case' a11_16 => simp only [show u 6 = _ from hR 6 (by kernel_rfl), show u 15 = _ from hR 15 (by kernel_rfl)]
   all_goals
    clear hR k1 k0 kM
    refine .inl ⟨by kernel_rfl, ?_⟩
    go_simp
    exact ⟨_, rfl, Fr.refl _ _, rfl, trivial⟩
  ·intro u w' hf hR kM
   have kz : u 16 = _ := hR 16 (by omega)
   clear hR kM
   simp only [List.take_succ_cons, List.take_zero, List.map_cons, List.map_nil, puts, Act.put, List.setIfInBounds_toArray, List.set_cons_zero, List.set_cons_succ, List.drop_succ_cons, List.drop_zero, Nat.reduceAdd, Nat.zero_add, kz]
   have HF := Lib.hid hf
   clear hf kz
   go_wp2
   go_ret
   exact ⟨_, rfl, (Grew.start ⟨rfl, .inl ⟨rfl, rfl⟩⟩ : Grew 55 7 w (.slice none 0 0) w (.slice none 0 0) 0 []).behind HF.out⟩
 ·have tr : decide (fa = ta) = false := decide_eq_false hr
  go_upto_region 1 with fail
  refine wp_region_st 17 Nothing [Is (.pointer (some ⟨s1, 0, none⟩)), Is (.bool false), Is (.bool false), Is (.pointer (some ⟨s2, 0, none⟩)), Is (.bool false), Is (.bool false), Is (.bool false), Is (.pointer (some ⟨s1, 0, none⟩)), Is (.pointer (some ⟨s1, 0, none⟩)), Is (.pointer (some ⟨s1, 0, none⟩)), Is (.pointer fa), Is (.pointer (some ⟨s2, 0, none⟩)), Is (.pointer (some ⟨s2, 0, none⟩)), Is (.pointer (some ⟨s2, 0, none⟩)), Is (.pointer ta), Is (.bool false), Is (.bool false)] [] (fun _ => True) (fun _ _ => false) (by kernel_rfl) (by kernel_rfl) (by kernel_rfl) (by kernel_rfl) ⟨Is.stable _, Is.stable _, Is.stable _, Is.stable _, Is.stable _, Is.stable _, Is.stable _, Is.stable _, Is.stable _, Is.stable _, Is.stable _, Is.stable _, Is.stable _, Is.stable _, Is.stable _, Is.stable _, Is.stable _, trivial⟩ trivial (fun _ _ _ _ h => h) trivial ?_ ?_
  ·refine ⟨?a12_0, ?a12_1, ?a12_2, ?a12_3, ?a12_4, ?a12_5, ?a12_6, ?a12_7, ?a12_8, ?a12_9, ?a12_10, ?a12_11, ?a12_12, ?a12_13, ?a12_14, ?a12_15, ?a12_16, trivial⟩
   all_goals intro u w' d hf hR k1 k0 kM
   all_goals simp only [List.take_succ_cons, List.take_zero, List.map_cons, List.map_nil, puts, Act.put, List.setIfInBounds_toArray, List.set_cons_zero, List.set_cons_succ, Nat.reduceAdd, Nat.zero_add]
   case' a12_1 => simp only [show u 0 = _ from hR 0 (by kernel_rfl)]
   case' a12_2 => simp only [show u 1 = _ from hR 1 (by kernel_rfl)]
   case' a12_3 => simp only [show u 2 = _ from hR 2 (by kernel_rfl)]
   case' a12_4 => simp only [show u 3 = _ from hR 3 (by kernel_rfl), show u 2 = _ from hR 2 (by kernel_rfl)]
   case' a12_5 => simp only [show u 2 = _ from hR 2 (by kernel_rfl), show u 4 = _ from hR 4 (by kernel_rfl)]
   case' a12_6 => simp only [show u 5 = _ from hR 5 (by kernel_rfl)]
   case' a12_7 => simp only [show u 6 = _ from hR 6 (by kernel_rfl)]
   case' a12_8 => simp only [show u 7 = _ from hR 7 (by kernel_rfl), show u 6 = _ from hR 6 (by kernel_rfl)]
   case' a12_9 => simp only [show u 8 = _ from hR 8 (by kernel_rfl), show u 6 = _ from hR 6 (by kernel_rfl)]
   case a12_10 =>
    simp only [show u 9 = _ from hR 9 (by kernel_rfl), show u 6 = _ from hR 6 (by kernel_rfl)]
    clear hR k1 k0 kM
    refine .inl ⟨by kernel_rfl, ?_⟩
    have q := hf.cellSome RA.out (fun x => x)
    go_simp
    exact ⟨_, rfl, Fr.refl _ _, rfl, trivial⟩
   case' a12_11 => simp only [show u 6 = _ from hR 6 (by kernel_rfl)]
   case' a12_12 => simp only [show u 11 = _ from hR 11 (by kernel_rfl), show u 6 = _ from hR 6 (by kernel_rfl)]
   case' a12_13 => simp only [show u 12 = _ from hR 12 (by kernel_rfl), show u 6 = _ from hR 6 (by kernel_rfl)]
   case a12_14 =>
    simp only [show u 13 = _ from hR 13 (by kernel_rfl), show u 6 = _ from hR 6 (by kernel_rfl)]
    clear hR k1 k0 kM
    refine .inl ⟨by kernel_rfl, ?_⟩
    have q := hf.cellSome RB.out (fun x => x)
    go_simp
    exact ⟨_, rfl, Fr.refl _ _, rfl, trivial⟩
   case a12_15 =>
    simp only [show u 10 = _ from hR 10 (by kernel_rfl), show u 14 = _ from hR 14 (by kernel_rfl), show u 6 = _ from hR 6 (by kernel_rfl)]
    clear hR k1 k0 kM
    refine .inl ⟨by kernel_rfl, ?_⟩
    have q := eqlPN fa ta w' (OA.out.fr0 hf) (OB.out.fr0 hf) false tr
    go_simp
    exact ⟨_, rfl, Fr.refl _ _, rfl, trivial⟩
   case' a12_16 => simp only [show u 6 = _ from hR 6 (by kernel_rfl), show u 15 = _ from hR 15 (by kernel_rfl)]
   all_goals
    clear hR k1 k0 kM
    refine .inl ⟨by kernel_rfl, ?_⟩
    go_simp
    exact ⟨_, rfl, Fr.refl _ _, rfl, trivial⟩
  ·intro u w' hf hR kM
   have kz : u 16 = _ := hR 16 (by omega)
   clear hR kM
   simp only [List.take_succ_cons, List.take_zero, List.map_cons, List.map_nil, puts, Act.put, List.setIfInBounds_toArray, List.set_cons_zero, List.set_cons_succ, List.drop_succ_cons, List.drop_zero, Nat.reduceAdd, Nat.zero_add, kz]
   have HF := Lib.hid hf
   clear hf kz
   have HR := Lib.hid HF.out
   clear HF HUN RA RB tr hr OA OB
   go_wp2_with fail
   refine (list_any s1 tA _ (HSA.out.fr0 HR.out) (by have := HZA.out; omega)).mono ?_
   rintro e w2 ⟨v6, L6, rfl, g6, e6, n6⟩
   have G6 := Lib.hid g6
   have E6 := Lib.hid e6
   have N6 := Lib.hid n6
   clear g6 e6 n6
   go_wp2_with fail
   refine (list_any s2 tB _ ((HSB.out.fr0 HR.out).fr0 G6.out.fr0) (by have := HZB.out; omega)).mono ?_
   rintro e w1 ⟨v7, L7, rfl, g7, e7, n7⟩
   obtain ⟨A6, m6, c6, rfl, H6, C6⟩ := own_slice G6.out.own
   obtain ⟨A7, m7, c7, rfl, H7, C7⟩ := own_slice g7.own
   have hm6 := H6.out
   have hm7 := H7.out
   have F1 := Lib.hid ((HR.out.trans G6.out.fr0).trans g7.fr0)
   have PA : Hid (PL w1 A6 m6 c6 L6) := PL.of (own_fr G6.out.own g7.fr0 (fun _ _ x => x)) H6.out C6.out (fun x hx => (N6.out x hx).fr0 g7.fr0) (E6.out.trans HEA.out) HOA.out
   have PB : Hid (PL w1 A7 m7 c7 L7) := PL.of g7.own H7.out C7.out n7 (e7.trans HEB.out) HOB.out
   have HC0 : Hid (DInv w1 D (.slice none 0 0) (.slice A6 m6 c6) (.slice A7 m7 c7) w1) := ⟨_, _, _, L6, _, _, _, L7, [], rfl, rfl, PA.out, PB.out, by rw [← HD0.out, ← HEA.out, ← HEB.out, ← E6.out, ← e7]; rfl, Grew.start ⟨rfl, .inl ⟨rfl, rfl⟩⟩⟩
   clear HD0 g7 e7 n7 hm6 hm7 H6 H7 C6 C7 PA PB G6 E6 N6 HEA HEB HSA HSB HR
   go_wp2
   go_loopw [5, 6, 7] (fun cs a b wr => DInv w1 D cs a b wr) (fun _ a b _ => lenOfV a + lenOfV b)
   case atStart => exact HC0.out
   case round =>
    obtain ⟨A, NA, cA, ra, B, NB, cB, rb, done, rfl, rfl, hPA, hPB, hD, hG⟩ := hrel
    have QA := Lib.hid hPA
    have QB := Lib.hid hPB
    have KG := Lib.hid hG
    obtain ⟨A5, n5, c5, rfl, H5, _⟩ := own_slice hG.own
    obtain rfl : n5 = done.length := H5.out
    have HD := Lib.hid hD
    have DL : Hid (done.length ≤ 120000) := by
     have h := HDL.out
     rw [← hD, List.length_append] at h
     simp only [Hid]
     omega
    have FW : Hid (Fr Nothing w1 wr) := hG.fr0
    have LA1 := hPA.len
    have LB1 := hPB.len
    have CA1 := hPA.cap
    have CB1 := hPB.cap
    have MA1 : cA ≤ 9223372036854775807 := hPA.most
    have MB1 : cB ≤ 9223372036854775807 := hPB.most
    clear hPA hPB hG hD H5 HC0
    cases ra with
    | nil =>
     obtain rfl : NA = 0 := LA1.symm
     cases rb with
     | nil =>
      obtain rfl : NB = 0 := LB1.symm
      have hend : done = D := by
       have h := HD.out
       rw [List.map_nil, diffL, List.append_nil] at h
       exact h
      go_wp2
      go_ret
      rw [← hend]
      exact ⟨_, rfl, KG.out.ahead F1.out⟩
     | cons y rb =>
      obtain ⟨bd, rfl, py, hy0⟩ := QB.out.head
      have PY : Hid (wr.cell? bd = some (.pointer (some ⟨y.g, 0, none⟩))) := FW.out.cellSome py (fun x => x)
      have MY : Hid (Mid wr y.g y.nm y.v) := (QB.out.at_ y (by simp)).mid.fr0 FW.out
      have OMY : Hid (PtrOk w1 (some ⟨y.g, 0, none⟩)) := (QB.out.at_ y (by simp)).ptr
      have HST := Lib.hid (dif_gt (ra := []) (rb := rb) (y := y) (.inl rfl))
      have BS := Lib.hid (builtDs (ndE y))
      have tb : decide ((0 : Int) < (NB : Int)) = true := decide_eq_true (by omega)
      have hb1 : 1 ≤ NB := hy0
      have hb2 : (1 : Int) ≤ (NB : Int) := by omega
      clear py
      go_upto_region 15 with fail
      refine wp_region_st 18 Nothing [Is (.int .i64 1), Is (.bool true), Is (.bool true), Is (undef), Is (undef), Is (undef), Is (undef), Is (undef), Is (undef), Is (undef), Is (undef), Is (undef), Is (undef), Is (undef), Is (undef), Is (undef), Is (.bool true), Is (.bool true)] [] (fun _ => True) (fun _ _ => false) (by kernel_rfl) (by kernel_rfl) (by kernel_rfl) (by kernel_rfl) ⟨Is.stable _, Is.stable _, Is.stable _, Is.stable _, Is.stable _, Is.stable _, Is.stable _, Is.stable _, Is.stable _, Is.stable _, Is.stable _, Is.stable _, Is.stable _, Is.stable _, Is.stable _, Is.stable _, Is.stable _, Is.stable _, trivial⟩ trivial (fun _ _ _ _ h => h) trivial ?_ ?_
      ·refine ⟨?a28_0, ?a28_1, ?a28_2, ?a28_3, ?a28_4, ?a28_5, ?a28_6, ?a28_7, ?a28_8, ?a28_9, ?a28_10, ?a28_11, ?a28_12, ?a28_13, ?a28_14, ?a28_15, ?a28_16, ?a28_17, trivial⟩
       all_goals intro u w' d hf hR k1 k0 kM
       all_goals simp only [List.take_succ_cons, List.take_zero, List.map_cons, List.map_nil, puts, Act.put, List.setIfInBounds_toArray, List.set_cons_zero, List.set_cons_succ, Nat.reduceAdd, Nat.zero_add]
       case' a28_1 => simp only [show u 0 = _ from hR 0 (by kernel_rfl)]
       case' a28_2 => simp only [show u 1 = _ from hR 1 (by kernel_rfl)]
       case a28_3 => simp only [show u 2 = _ from hR 2 (by kernel_rfl)]; exact .inr ⟨by kernel_rfl, _, rfl, Fr.refl _ _, rfl, trivial⟩
       case a28_4 => simp only [show u 2 = _ from hR 2 (by kernel_rfl)]; exact .inr ⟨by kernel_rfl, _, rfl, Fr.refl _ _, rfl, trivial⟩
       case a28_5 => simp only [show u 2 = _ from hR 2 (by kernel_rfl)]; exact .inr ⟨by kernel_rfl, _, rfl, Fr.refl _ _, rfl, trivial⟩
       case a28_6 => simp only [show u 2 = _ from hR 2 (by kernel_rfl)]; exact .inr ⟨by kernel_rfl, _, rfl, Fr.refl _ _, rfl, trivial⟩
       case a28_7 => simp only [show u 2 = _ from hR 2 (by kernel_rfl)]; exact .inr ⟨by kernel_rfl, _, rfl, Fr.refl _ _, rfl, trivial⟩
       case a28_8 => simp only [show u 2 = _ from hR 2 (by kernel_rfl)]; exact .inr ⟨by kernel_rfl, _, rfl, Fr.refl _ _, rfl, trivial⟩
       case a28_9 => simp only [show u 2 = _ from hR 2 (by kernel_rfl)]; exact .inr ⟨by kernel_rfl, _, rfl, Fr.refl _ _, rfl, trivial⟩
       case a28_10 => simp only [show u 2 = _ from hR 2 (by kernel_rfl)]; exact .inr ⟨by kernel_rfl, _, rfl, Fr.refl _ _, rfl, trivial⟩
       case a28_11 => simp only [show u 2 = _ from hR 2 (by kernel_rfl)]; exact .inr ⟨by kernel_rfl, _, rfl, Fr.refl _ _, rfl, trivial⟩
       case a28_12 => simp only [show u 2 = _ from hR 2 (by kernel_rfl)]; exact .inr ⟨by kernel_rfl, _, rfl, Fr.refl _ _, rfl, trivial⟩
       case a28_13 => simp only [show u 2 = _ from hR 2 (by kernel_rfl)]; exact .inr ⟨by kernel_rfl, _, rfl, Fr.refl _ _, rfl, trivial⟩
       case a28_14 => simp only [show u 2 = _ from hR 2 (by kernel_rfl)]; exact .inr ⟨by kernel_rfl, _, rfl, Fr.refl _ _, rfl, trivial⟩
       case a28_15 => simp only [show u 2 = _ from hR 2 (by kernel_rfl)]; exact .inr ⟨by kernel_rfl, _, rfl, Fr.refl _ _, rfl, trivial⟩
       case' a28_16 => simp only [show u 2 = _ from hR 2 (by kernel_rfl), show u 15 = _ from hR 15 (by kernel_rfl)]
       case' a28_17 => simp only [show u 16 = _ from hR 16 (by kernel_rfl)]
       all_goals
        clear hR k1 k0 kM
        refine .inl ⟨by kernel_rfl, ?_⟩
        go_simp
        exact ⟨_, rfl, Fr.refl _ _, rfl, trivial⟩
      ·intro u w' hf hR kM
       have kz : u 17 = _ := hR 17 (by omega)
       clear hR kM
       simp only [List.take_succ_cons, List.take_zero, List.map_cons, List.map_nil, puts, Act.put, List.setIfInBounds_toArray, List.set_cons_zero, List.set_cons_succ, List.drop_succ_cons, List.drop_zero, Nat.reduceAdd, Nat.zero_add, kz]
       have HF := Lib.hid hf
       clear hf kz
       have KG := Lib.hid (KG.out.behind HF.out)
       have PY : Hid (w'.cell? bd = some (.pointer (some ⟨y.g, 0, none⟩))) := HF.out.cellSome PY.out (fun x => x)
       have MY : Hid (Mid w' y.g y.nm y.v) := MY.out.fr0 HF.out
       clear HF
       generalize w' = wr at *
       go_upto_region 16 with fail
       refine wp_region_st 15 Nothing [Is (.slice A5 done.length c5), Is (.slice (some bd) NB cB), Is (.pointer (some bd)), Is (.pointer (some ⟨y.g, 0, none⟩)), Is (.pointer (some ⟨y.g, 0, none⟩)), Is (.pointer (some ⟨y.g, 2, none⟩)), Is (.agg y.nm.cells.toArray), Is (.slice (some bd) NB cB), Is (.pointer (some bd)), Is (.pointer (some ⟨y.g, 0, none⟩)), Is (.pointer (some ⟨y.g, 0, none⟩)), Is (.pointer (some ⟨y.g, 7, none⟩)), Is (.string y.v), Is (.agg (setC (ndE y)).cells.toArray), (fun zv zW => ∃ g, zv = .slice (some ⟨g, 0, none⟩) 1 1 ∧ Rd zW (fun _ => True) 7 (some ⟨g, 0, none⟩) 1 (setC (ndE y)).cells)] [] (fun _ => True) (fun _ _ => false) (by kernel_rfl) (by kernel_rfl) (by kernel_rfl) (by kernel_rfl) ⟨Is.stable _, Is.stable _, Is.stable _, Is.stable _, Is.stable _, Is.stable _, Is.stable _, Is.stable _, Is.stable _, Is.stable _, Is.stable _, Is.stable _, Is.stable _, Is.stable _, fun _ _ _ _ f h => by obtain ⟨g, e, r⟩ := h; exact ⟨g, e, r.fr0 f⟩, trivial⟩ trivial (fun _ _ _ _ h => h) trivial ?_ ?_
       ·refine ⟨?a29_0, ?a29_1, ?a29_2, ?a29_3, ?a29_4, ?a29_5, ?a29_6, ?a29_7, ?a29_8, ?a29_9, ?a29_10, ?a29_11, ?a29_12, ?a29_13, ?a29_14, trivial⟩
        all_goals intro u w' d hf hR k1 k0 kM
        all_goals simp only [List.take_succ_cons, List.take_zero, List.map_cons, List.map_nil, puts, Act.put, List.setIfInBounds_toArray, List.set_cons_zero, List.set_cons_succ, Nat.reduceAdd, Nat.zero_add]
        case' a29_2 => simp only [show u 1 = _ from hR 1 (by kernel_rfl)]
        case a29_3 =>
         simp only [show u 2 = _ from hR 2 (by kernel_rfl)]
         clear hR k1 k0 kM
         refine .inl ⟨by kernel_rfl, ?_⟩
         have q := hf.cellSome PY.out (fun x => x)
         go_simp
         exact ⟨_, rfl, Fr.refl _ _, rfl, trivial⟩
        case' a29_4 => simp only [show u 3 = _ from hR 3 (by kernel_rfl)]
        case' a29_5 => simp only [show u 4 = _ from hR 4 (by kernel_rfl)]
        case a29_6 =>
         simp only [show u 5 = _ from hR 5 (by kernel_rfl)]
         clear hR k1 k0 kM
         refine .inl ⟨by kernel_rfl, ?_⟩
         exact wp_load_add _ _ rfl ⟨y.g, 2, none⟩ rfl y.nm.cells _ (fun jj v hv => by rw [Addr.add_mid]; exact (MY.out.fr0 hf).name jj v hv) Tryz.underlying44 rfl infoName ⟨_, rfl, Fr.refl _ _, rfl, trivial⟩
        case' a29_8 => simp only [show u 7 = _ from hR 7 (by kernel_rfl)]
        case a29_9 =>
         simp only [show u 8 = _ from hR 8 (by kernel_rfl)]
         clear hR k1 k0 kM
         refine .inl ⟨by kernel_rfl, ?_⟩
         have q := hf.cellSome PY.out (fun x => x)
         go_simp
         exact ⟨_, rfl, Fr.refl _ _, rfl, trivial⟩
        case' a29_10 => simp only [show u 9 = _ from hR 9 (by kernel_rfl)]
        case' a29_11 => simp only [show u 10 = _ from hR 10 (by kernel_rfl)]
        case a29_12 =>
         simp only [show u 11 = _ from hR 11 (by kernel_rfl)]
         clear hR k1 k0 kM
         refine .inl ⟨by kernel_rfl, ?_⟩
         have q := (MY.out.fr0 hf).val
         go_simp
         exact ⟨_, rfl, Fr.refl _ _, rfl, trivial⟩
        case a29_13 =>
         simp only [show u 6 = _ from hR 6 (by kernel_rfl), show u 12 = _ from hR 12 (by kernel_rfl)]
         clear hR k1 k0 kM
         refine .inl ⟨by kernel_rfl, ?_⟩
         exact wp_builtA 55 _ rfl (setC (ndE y)).cells.toArray _ (by simp only [List.map_toArray, List.map_cons, List.map_nil]; rfl) BS.out ⟨_, rfl, Fr.refl _ _, rfl, trivial⟩
        case a29_14 =>
         simp only [show u 13 = _ from hR 13 (by kernel_rfl)]
         clear hR k1 k0 kM
         refine .inl ⟨by kernel_rfl, ?_⟩
         refine wp_buildSlice 49 55 1 _ rfl (setC (ndE y)).cells.toArray ic zeroC Tryz.underlying49 hic hzc gc1.out gc2.out (by simp only [List.map_toArray, List.map_cons, List.map_nil]; exact gc3.out _) ?_
         exact ⟨_, rfl, (Fr.refl _ _).alloc _, ⟨_, rfl, (rd_new w' (setC (ndE y)).cells.toArray 55 7 1 rfl).any⟩, trivial⟩
        all_goals
         clear hR k1 k0 kM
         refine .inl ⟨by kernel_rfl, ?_⟩
         go_simp
         exact ⟨_, rfl, Fr.refl _ _, rfl, trivial⟩
       ·intro u w' hf hR kM
        have k0 : u 0 = _ := hR 0 (by omega)
        obtain ⟨g9, k12, rd9⟩ := hR 14 (by omega)
        clear hR kM
        simp only [List.take_succ_cons, List.take_zero, List.map_cons, List.map_nil, puts, Act.put, List.setIfInBounds_toArray, List.set_cons_zero, List.set_cons_succ, List.drop_succ_cons, List.drop_zero, Nat.reduceAdd, Nat.zero_add, k0, k12]
        have KG := Lib.hid (KG.out.behind hf)
        have RD9 := Lib.hid rd9
        clear hf k0 k12 rd9
        refine wpList_app _ rfl _ _ 49 rfl 55 ic zeroC 7 80 Tryz.underlying49 hic hzc hc1 hc2 rfl (by decide) _ _ _ rfl KG.out.own _ _ 1 1 _ rfl RD9.out (CV_one _) (by have := DL.out; omega) (by decide) ?_
        intro v9 w9 hG9
        have KH : Hid (Grew 55 7 w1 (.slice none 0 0) w9 v9 (done.length + 1) (done.flatMap CV.cells ++ (setC (ndE y)).cells)) := KG.out.trans hG9
        obtain ⟨A9, n9, c9, rfl, _, _⟩ := own_slice hG9.own
        clear hG9 KG
        go_wp2
        go_roundw
        case rel => exact ⟨_, _, _, _, _, _, _, _, done ++ [setC (ndE y)], rfl, rfl, QA.out, QB.out.tail, by rw [← HD.out, HST.out, List.append_assoc]; rfl, by rw [List.length_append, List.flatMap_append, List.flatMap_singleton]; exact KH.out⟩
        case measure => simp only [lenOfV]; omega
    | cons x ra =>
     obtain ⟨ad, rfl, px, hx0⟩ := QA.out.head
     have PX : Hid (wr.cell? ad = some (.pointer (some ⟨x.g, 0, none⟩))) := FW.out.cellSome px (fun x => x)
     have MX : Hid (Mid wr x.g x.nm x.v) := (QA.out.at_ x (by simp)).mid.fr0 FW.out
     have OMX : Hid (PtrOk w1 (some ⟨x.g, 0, none⟩)) := (QA.out.at_ x (by simp)).ptr
     have ta : decide ((0 : Int) < (NA : Int)) = true := decide_eq_true (by omega)
     have ea : ((NA : Int) == 0) = false := beq_eq_false_iff_ne.2 (by omega)
     have ha1 : 1 ≤ NA := hx0
     have ha2 : (1 : Int) ≤ (NA : Int) := by omega
     clear px
     cases rb with
     | nil =>
      obtain rfl : NB = 0 := LB1.symm
      have HST := Lib.hid (dif_lt (ra := ra) (rb := []) (x := x) (.inl rfl))
      have BD := Lib.hid (builtDd (ndE x))
      have cpx := PX.out
      go_wp2_with (refine wpList_load_add rfl 44 (.tmp 75) rfl ⟨x.g, 2, none⟩ rfl x.nm.cells _ ?hcc1 Tryz.underlying44 rfl infoName (Held.go ?hold1))
      case hcc1 => exact fun jj v hv => by rw [Addr.add_mid]; exact MX.out.name jj v hv
      unfold Held
      refine wpList_built rfl 55 _ rfl (dropC (ndE x)).cells.toArray _ (by simp only [List.map_toArray, List.map_cons, List.map_nil]; rfl) BD.out (Held.go ?holdb1)
      unfold Held
      refine wpList_buildSlice rfl 49 55 1 _ rfl (dropC (ndE x)).cells.toArray ic zeroC Tryz.underlying49 hic hzc gc1.out gc2.out (by simp only [List.map_toArray, List.map_cons, List.map_nil]; exact gc3.out _) ?_
      refine wpList_app1 _ rfl _ _ 49 rfl 55 ic zeroC 7 80 Tryz.underlying49 hic hzc hc1 hc2 rfl (by decide) _ _ _ rfl KG.out.own 1 (dropC (ndE x)).cells.toArray _ rfl rfl rfl (CV_one _) (by have := DL.out; omega) (by decide) ?_
      intro v9 w9 hG9
      clear cpx
      have KH : Hid (Grew 55 7 w1 (.slice none 0 0) w9 v9 (done.length + 1) (done.flatMap CV.cells ++ (dropC (ndE x)).cells)) := KG.out.trans hG9
      obtain ⟨A9, n9, c9, rfl, _, _⟩ := own_slice hG9.own
      clear hG9 KG
      go_wp2
      go_roundw
      case rel => exact ⟨_, _, _, _, _, _, _, _, done ++ [dropC (ndE x)], rfl, rfl, QA.out.tail, QB.out, by rw [← HD.out, HST.out, List.append_assoc]; rfl, by rw [List.length_append, List.flatMap_append, List.flatMap_singleton]; exact KH.out⟩
      case measure => simp only [lenOfV]; omega
     | cons y rb =>
      obtain ⟨bd, rfl, py, hy0⟩ := QB.out.head
      have PY : Hid (wr.cell? bd = some (.pointer (some ⟨y.g, 0, none⟩))) := FW.out.cellSome py (fun x => x)
      have MY : Hid (Mid wr y.g y.nm y.v) := (QB.out.at_ y (by simp)).mid.fr0 FW.out
      have OMY : Hid (PtrOk w1 (some ⟨y.g, 0, none⟩)) := (QB.out.at_ y (by simp)).ptr
      have tb : decide ((0 : Int) < (NB : Int)) = true := decide_eq_true (by omega)
      have eb : ((NB : Int) == 0) = false := beq_eq_false_iff_ne.2 (by omega)
      have hb1 : 1 ≤ NB := hy0
      have hb2 : (1 : Int) ≤ (NB : Int) := by omega
      have HOX : Hid (x.nm.owner.size ≤ 1099511627776) := QA.out.own x (by simp)
      have HOY : Hid (y.nm.owner.size ≤ 1099511627776) := QB.out.own y (by simp)
      clear py
      by_cases hg : x.g = y.g
      ·have hm := mid_same MX.out (by rw [hg]; exact MY.out)
       have h0 : cmpN x.nm y.nm = 0 := by rw [hm.1]; exact cmpN_is.refl _
       have hv : (x.v == y.v) = true := by rw [hm.2]; exact (beqB _ _).2 rfl
       have tv : (x.v.toList == y.v.toList) = true := by rw [beqL]; exact hv
       have HST := Lib.hid (dif_same (ra := ra) (rb := rb) h0 hv)
       have tpp : decide ((some ⟨x.g, 0, none⟩ : Option Addr) = some ⟨y.g, 0, none⟩) = !false := by rw [hg]; simp
       clear hm h0 hv hg
       go_upto_region 11 with fail
       refine wp_region_st 8 Nothing [Is (.slice (some ad) NA cA), Is (.pointer (some ad)), Is (.pointer (some ⟨x.g, 0, none⟩)), Is (.slice (some bd) NB cB), Is (.pointer (some bd)), Is (.pointer (some ⟨y.g, 0, none⟩)), Is (.bool false), Is (.bool false)] [] (fun _ => True) (fun _ _ => false) (by kernel_rfl) (by kernel_rfl) (by kernel_rfl) (by kernel_rfl) ⟨Is.stable _, Is.stable _, Is.stable _, Is.stable _, Is.stable _, Is.stable _, Is.stable _, Is.stable _, trivial⟩ trivial (fun _ _ _ _ h => h) trivial ?_ ?_
       ·refine ⟨?a13_0, ?a13_1, ?a13_2, ?a13_3, ?a13_4, ?a13_5, ?a13_6, ?a13_7, trivial⟩
        all_goals intro u w' d hf hR k1 k0 kM
        all_goals simp only [List.take_succ_cons, List.take_zero, List.map_cons, List.map_nil, puts, Act.put, List.setIfInBounds_toArray, List.set_cons_zero, List.set_cons_succ, Nat.reduceAdd, Nat.zero_add]
        case' a13_1 => simp only [show u 0 = _ from hR 0 (by kernel_rfl)]
        case a13_2 =>
         simp only [show u 1 = _ from hR 1 (by kernel_rfl)]
         clear hR k1 k0 kM
         refine .inl ⟨by kernel_rfl, ?_⟩
         have q := hf.cellSome PX.out (fun x => x)
         go_simp
         exact ⟨_, rfl, Fr.refl _ _, rfl, trivial⟩
        case' a13_4 => simp only [show u 3 = _ from hR 3 (by kernel_rfl)]
        case a13_5 =>
         simp only [show u 4 = _ from hR 4 (by kernel_rfl)]
         clear hR k1 k0 kM
         refine .inl ⟨by kernel_rfl, ?_⟩
         have q := hf.cellSome PY.out (fun x => x)
         go_simp
         exact ⟨_, rfl, Fr.refl _ _, rfl, trivial⟩
        case a13_6 =>
         simp only [show u 2 = _ from hR 2 (by kernel_rfl), show u 5 = _ from hR 5 (by kernel_rfl)]
         clear hR k1 k0 kM
         refine .inl ⟨by kernel_rfl, ?_⟩
         have q := neqPN (some ⟨x.g, 0, none⟩) (some ⟨y.g, 0, none⟩) w' (OMX.out.fr0 (FW.out.trans hf)) (OMY.out.fr0 (FW.out.trans hf)) false tpp
         go_simp
         exact ⟨_, rfl, Fr.refl _ _, rfl, trivial⟩
        case' a13_7 => simp only [show u 6 = _ from hR 6 (by kernel_rfl)]
        all_goals
         clear hR k1 k0 kM
         refine .inl ⟨by kernel_rfl, ?_⟩
         go_simp
         exact ⟨_, rfl, Fr.refl _ _, rfl, trivial⟩
       ·intro u w' hf hR kM
        have kz : u 7 = _ := hR 7 (by omega)
        clear hR kM
        simp only [List.take_succ_cons, List.take_zero, List.map_cons, List.map_nil, puts, Act.put, List.setIfInBounds_toArray, List.set_cons_zero, List.set_cons_succ, List.drop_succ_cons, List.drop_zero, Nat.reduceAdd, Nat.zero_add, kz]
        have HF := Lib.hid hf
        clear hf kz
        have KG := Lib.hid (KG.out.behind HF.out)
        have PX : Hid (w'.cell? ad = some (.pointer (some ⟨x.g, 0, none⟩))) := HF.out.cellSome PX.out (fun x => x)
        have MX : Hid (Mid w' x.g x.nm x.v) := MX.out.fr0 HF.out
        have PY : Hid (w'.cell? bd = some (.pointer (some ⟨y.g, 0, none⟩))) := HF.out.cellSome PY.out (fun x => x)
        have MY : Hid (Mid w' y.g y.nm y.v) := MY.out.fr0 HF.out
        clear HF
        generalize w' = wr at *
        go_upto_region 15 with fail
        refine wp_region_st 18 Nothing [Is (.int .i64 0), Is (.bool false), Is (.bool false), Is (.slice (some ad) NA cA), Is (.pointer (some ad)), Is (.pointer (some ⟨x.g, 0, none⟩)), Is (.pointer (some ⟨x.g, 0, none⟩)), Is (.pointer (some ⟨x.g, 7, none⟩)), Is (.string x.v), Is (.slice (some bd) NB cB), Is (.pointer (some bd)), Is (.pointer (some ⟨y.g, 0, none⟩)), Is (.pointer (some ⟨y.g, 0, none⟩)), Is (.pointer (some ⟨y.g, 7, none⟩)), Is (.string y.v), Is (.bool false), Is (.bool false), Is (.bool false)] [] (fun _ => True) (fun _ _ => false) (by kernel_rfl) (by kernel_rfl) (by kernel_rfl) (by kernel_rfl) ⟨Is.stable _, Is.stable _, Is.stable _, Is.stable _, Is.stable _, Is.stable _, Is.stable _, Is.stable _, Is.stable _, Is.stable _, Is.stable _, Is.stable _, Is.stable _, Is.stable _, Is.stable _, Is.stable _, Is.stable _, Is.stable _, trivial⟩ trivial (fun _ _ _ _ h => h) trivial ?_ ?_
        ·refine ⟨?a14_0, ?a14_1, ?a14_2, ?a14_3, ?a14_4, ?a14_5, ?a14_6, ?a14_7, ?a14_8, ?a14_9, ?a14_10, ?a14_11, ?a14_12, ?a14_13, ?a14_14, ?a14_15, ?a14_16, ?a14_17, trivial⟩
         all_goals intro u w' d hf hR k1 k0 kM
         all_goals simp only [List.take_succ_cons, List.take_zero, List.map_cons, List.map_nil, puts, Act.put, List.setIfInBounds_toArray, List.set_cons_zero, List.set_cons_succ, Nat.reduceAdd, Nat.zero_add]
         case' a14_1 => simp only [show u 0 = _ from hR 0 (by kernel_rfl)]
         case' a14_2 => simp only [show u 1 = _ from hR 1 (by kernel_rfl)]
         case' a14_3 => simp only [show u 2 = _ from hR 2 (by kernel_rfl)]
         case' a14_4 => simp only [show u 3 = _ from hR 3 (by kernel_rfl), show u 2 = _ from hR 2 (by kernel_rfl)]
         case a14_5 =>
          simp only [show u 4 = _ from hR 4 (by kernel_rfl), show u 2 = _ from hR 2 (by kernel_rfl)]
          clear hR k1 k0 kM
          refine .inl ⟨by kernel_rfl, ?_⟩
          have q := hf.cellSome PX.out (fun x => x)
          go_simp
          exact ⟨_, rfl, Fr.refl _ _, rfl, trivial⟩
         case' a14_6 => simp only [show u 5 = _ from hR 5 (by kernel_rfl), show u 2 = _ from hR 2 (by kernel_rfl)]
         case' a14_7 => simp only [show u 6 = _ from hR 6 (by kernel_rfl), show u 2 = _ from hR 2 (by kernel_rfl)]
         case a14_8 =>
          simp only [show u 7 = _ from hR 7 (by kernel_rfl), show u 2 = _ from hR 2 (by kernel_rfl)]
          clear hR k1 k0 kM
          refine .inl ⟨by kernel_rfl, ?_⟩
          have q := (MX.out.fr0 hf).val
          go_simp
          exact ⟨_, rfl, Fr.refl _ _, rfl, trivial⟩
         case' a14_9 => simp only [show u 2 = _ from hR 2 (by kernel_rfl)]
         case' a14_10 => simp only [show u 9 = _ from hR 9 (by kernel_rfl), show u 2 = _ from hR 2 (by kernel_rfl)]
         case a14_11 =>
          simp only [show u 10 = _ from hR 10 (by kernel_rfl), show u 2 = _ from hR 2 (by kernel_rfl)]
          clear hR k1 k0 kM
          refine .inl ⟨by kernel_rfl, ?_⟩
          have q := hf.cellSome PY.out (fun x => x)
          go_simp
          exact ⟨_, rfl, Fr.refl _ _, rfl, trivial⟩
         case' a14_12 => simp only [show u 11 = _ from hR 11 (by kernel_rfl), show u 2 = _ from hR 2 (by kernel_rfl)]
         case' a14_13 => simp only [show u 12 = _ from hR 12 (by kernel_rfl), show u 2 = _ from hR 2 (by kernel_rfl)]
         case a14_14 =>
          simp only [show u 13 = _ from hR 13 (by kernel_rfl), show u 2 = _ from hR 2 (by kernel_rfl)]
          clear hR k1 k0 kM
          refine .inl ⟨by kernel_rfl, ?_⟩
          have q := (MY.out.fr0 hf).val
          go_simp
          exact ⟨_, rfl, Fr.refl _ _, rfl, trivial⟩
         case' a14_15 => simp only [show u 8 = _ from hR 8 (by kernel_rfl), show u 14 = _ from hR 14 (by kernel_rfl), show u 2 = _ from hR 2 (by kernel_rfl)]
         case' a14_16 => simp only [show u 2 = _ from hR 2 (by kernel_rfl), show u 15 = _ from hR 15 (by kernel_rfl)]
         case' a14_17 => simp only [show u 16 = _ from hR 16 (by kernel_rfl)]
         all_goals
          clear hR k1 k0 kM
          refine .inl ⟨by kernel_rfl, ?_⟩
          go_simp
          exact ⟨_, rfl, Fr.refl _ _, rfl, trivial⟩
        ·intro u w' hf hR kM
         have kz : u 17 = _ := hR 17 (by omega)
         clear hR kM
         simp only [List.take_succ_cons, List.take_zero, List.map_cons, List.map_nil, puts, Act.put, List.setIfInBounds_toArray, List.set_cons_zero, List.set_cons_succ, List.drop_succ_cons, List.drop_zero, Nat.reduceAdd, Nat.zero_add, kz]
         have HF := Lib.hid hf
         clear hf kz
         have KG := Lib.hid (KG.out.behind HF.out)
         have PX : Hid (w'.cell? ad = some (.pointer (some ⟨x.g, 0, none⟩))) := HF.out.cellSome PX.out (fun x => x)
         have MX : Hid (Mid w' x.g x.nm x.v) := MX.out.fr0 HF.out
         have PY : Hid (w'.cell? bd = some (.pointer (some ⟨y.g, 0, none⟩))) := HF.out.cellSome PY.out (fun x => x)
         have MY : Hid (Mid w' y.g y.nm y.v) := MY.out.fr0 HF.out
         clear HF
         generalize w' = wr at *
         go_wp2
         go_roundw
         case rel => exact ⟨_, _, _, _, _, _, _, _, done, rfl, rfl, QA.out.tail, QB.out.tail, by rw [← HD.out, HST.out], KG.out⟩
         case measure => simp only [lenOfV]; omega
      ·have tpp : decide ((some ⟨x.g, 0, none⟩ : Option Addr) = some ⟨y.g, 0, none⟩) = !true := decide_eq_false (fun e => hg (congrArg Addr.block (Option.some.inj e)))
       obtain ⟨q, hq⟩ : ∃ q, cmpN x.nm y.nm = q := ⟨_, rfl⟩
       have CQ : Hid (∀ w', Calls Tryz.prog 32 #[.agg x.nm.cells.toArray, .agg y.nm.cells.toArray] w' (Same' w' (.int .i64 q))) := fun w' => by
        rw [← hq]
        exact objCompare_any x.nm y.nm w' HOX.out HOY.out
       have HQ := Lib.hid hq
       clear hq
       by_cases hl : q < 0
       ·have tl : decide (q < 0) = true := decide_eq_true hl
        have tm : decide (q ≤ 0) = true := decide_eq_true (by omega)
        have tn : decide (0 ≤ q) = false := decide_eq_false (by omega)
        have HST := Lib.hid (dif_lt (ra := ra) (rb := y :: rb) (x := x) (.inr ⟨y, rb, rfl, by rw [HQ.out]; exact hl⟩))
        have BD := Lib.hid (builtDd (ndE x))
        go_upto_region 11 with fail
        refine wp_region_st 8 Nothing [Is (.slice (some ad) NA cA), Is (.pointer (some ad)), Is (.pointer (some ⟨x.g, 0, none⟩)), Is (.slice (some bd) NB cB), Is (.pointer (some bd)), Is (.pointer (some ⟨y.g, 0, none⟩)), Is (.bool true), Is (.bool true)] [] (fun _ => True) (fun _ _ => false) (by kernel_rfl) (by kernel_rfl) (by kernel_rfl) (by kernel_rfl) ⟨Is.stable _, Is.stable _, Is.stable _, Is.stable _, Is.stable _, Is.stable _, Is.stable _, Is.stable _, trivial⟩ trivial (fun _ _ _ _ h => h) trivial ?_ ?_
        ·refine ⟨?a15_0, ?a15_1, ?a15_2, ?a15_3, ?a15_4, ?a15_5, ?a15_6, ?a15_7, trivial⟩
         all_goals intro u w' d hf hR k1 k0 kM
         all_goals simp only [List.take_succ_cons, List.take_zero, List.map_cons, List.map_nil, puts, Act.put, List.setIfInBounds_toArray, List.set_cons_zero, List.set_cons_succ, Nat.reduceAdd, Nat.zero_add]
         case' a15_1 => simp only [show u 0 = _ from hR 0 (by kernel_rfl)]
         case a15_2 =>
          simp only [show u 1 = _ from hR 1 (by kernel_rfl)]
          clear hR k1 k0 kM
          refine .inl ⟨by kernel_rfl, ?_⟩
          have q := hf.cellSome PX.out (fun x => x)
          go_simp
          exact ⟨_, rfl, Fr.refl _ _, rfl, trivial⟩
         case' a15_4 => simp only [show u 3 = _ from hR 3 (by kernel_rfl)]
         case a15_5 =>
          simp only [show u 4 = _ from hR 4 (by kernel_rfl)]
          clear hR k1 k0 kM
          refine .inl ⟨by kernel_rfl, ?_⟩
          have q := hf.cellSome PY.out (fun x => x)
          go_simp
          exact ⟨_, rfl, Fr.refl _ _, rfl, trivial⟩
         case a15_6 =>
          simp only [show u 2 = _ from hR 2 (by kernel_rfl), show u 5 = _ from hR 5 (by kernel_rfl)]
          clear hR k1 k0 kM
          refine .inl ⟨by kernel_rfl, ?_⟩
          have q := neqPN (some ⟨x.g, 0, none⟩) (some ⟨y.g, 0, none⟩) w' (OMX.out.fr0 (FW.out.trans hf)) (OMY.out.fr0 (FW.out.trans hf)) true tpp
          go_simp
          exact ⟨_, rfl, Fr.refl _ _, rfl, trivial⟩
         case' a15_7 => simp only [show u 6 = _ from hR 6 (by kernel_rfl)]
         all_goals
          clear hR k1 k0 kM
          refine .inl ⟨by kernel_rfl, ?_⟩
          go_simp
          exact ⟨_, rfl, Fr.refl _ _, rfl, trivial⟩
        ·intro u w' hf hR kM
         have kz : u 7 = _ := hR 7 (by omega)
         clear hR kM
         simp only [List.take_succ_cons, List.take_zero, List.map_cons, List.map_nil, puts, Act.put, List.setIfInBounds_toArray, List.set_cons_zero, List.set_cons_succ, List.drop_succ_cons, List.drop_zero, Nat.reduceAdd, Nat.zero_add, kz]
         have HF := Lib.hid hf
         clear hf kz
         have KG := Lib.hid (KG.out.behind HF.out)
         have PX : Hid (w'.cell? ad = some (.pointer (some ⟨x.g, 0, none⟩))) := HF.out.cellSome PX.out (fun x => x)
         have MX : Hid (Mid w' x.g x.nm x.v) := MX.out.fr0 HF.out
         have PY : Hid (w'.cell? bd = some (.pointer (some ⟨y.g, 0, none⟩))) := HF.out.cellSome PY.out (fun x => x)
         have MY : Hid (Mid w' y.g y.nm y.v) := MY.out.fr0 HF.out
         clear HF
         generalize w' = wr at *
         go_upto_region 12 with fail
         refine wp_region_st 14 Nothing [Is (.slice (some ad) NA cA), Is (.pointer (some ad)), Is (.pointer (some ⟨x.g, 0, none⟩)), Is (.pointer (some ⟨x.g, 0, none⟩)), Is (.pointer (some ⟨x.g, 2, none⟩)), Is (.agg x.nm.cells.toArray), Is (.slice (some bd) NB cB), Is (.pointer (some bd)), Is (.pointer (some ⟨y.g, 0, none⟩)), Is (.pointer (some ⟨y.g, 0, none⟩)), Is (.pointer (some ⟨y.g, 2, none⟩)), Is (.agg y.nm.cells.toArray), Is (.int .i64 q), Is (.int .i64 q)] [] (fun _ => True) (fun _ _ => false) (by kernel_rfl) (by kernel_rfl) (by kernel_rfl) (by kernel_rfl) ⟨Is.stable _, Is.stable _, Is.stable _, Is.stable _, Is.stable _, Is.stable _, Is.stable _, Is.stable _, Is.stable _, Is.stable _, Is.stable _, Is.stable _, Is.stable _, Is.stable _, trivial⟩ trivial (fun _ _ _ _ h => h) trivial ?_ ?_
         ·refine ⟨?a16_0, ?a16_1, ?a16_2, ?a16_3, ?a16_4, ?a16_5, ?a16_6, ?a16_7, ?a16_8, ?a16_9, ?a16_10, ?a16_11, ?a16_12, ?a16_13, trivial⟩
          all_goals intro u w' d hf hR k1 k0 kM
          all_goals simp only [List.take_succ_cons, List.take_zero, List.map_cons, List.map_nil, puts, Act.put, List.setIfInBounds_toArray, List.set_cons_zero, List.set_cons_succ, Nat.reduceAdd, Nat.zero_add]
          case' a16_1 => simp only [show u 0 = _ from hR 0 (by kernel_rfl)]
          case a16_2 =>
           simp only [show u 1 = _ from hR 1 (by kernel_rfl)]
           clear hR k1 k0 kM
           refine .inl ⟨by kernel_rfl, ?_⟩
           have q := hf.cellSome PX.out (fun x => x)
           go_simp
           exact ⟨_, rfl, Fr.refl _ _, rfl, trivial⟩
          case' a16_3 => simp only [show u 2 = _ from hR 2 (by kernel_rfl)]
          case' a16_4 => simp only [show u 3 = _ from hR 3 (by kernel_rfl)]
          case a16_5 =>
           simp only [show u 4 = _ from hR 4 (by kernel_rfl)]
           clear hR k1 k0 kM
           refine .inl ⟨by kernel_rfl, ?_⟩
           exact wp_load_add _ _ rfl ⟨x.g, 2, none⟩ rfl x.nm.cells _ (fun jj v hv => by rw [Addr.add_mid]; exact (MX.out.fr0 hf).name jj v hv) Tryz.underlying44 rfl infoName ⟨_, rfl, Fr.refl _ _, rfl, trivial⟩
          case' a16_7 => simp only [show u 6 = _ from hR 6 (by kernel_rfl)]
          case a16_8 =>
           simp only [show u 7 = _ from hR 7 (by kernel_rfl)]
           clear hR k1 k0 kM
           refine .inl ⟨by kernel_rfl, ?_⟩
           have q := hf.cellSome PY.out (fun x => x)
           go_simp
           exact ⟨_, rfl, Fr.refl _ _, rfl, trivial⟩
          case' a16_9 => simp only [show u 8 = _ from hR 8 (by kernel_rfl)]
          case' a16_10 => simp only [show u 9 = _ from hR 9 (by kernel_rfl)]
          case a16_11 =>
           simp only [show u 10 = _ from hR 10 (by kernel_rfl)]
           clear hR k1 k0 kM
           refine .inl ⟨by kernel_rfl, ?_⟩
           exact wp_load_add _ _ rfl ⟨y.g, 2, none⟩ rfl y.nm.cells _ (fun jj v hv => by rw [Addr.add_mid]; exact (MY.out.fr0 hf).name jj v hv) Tryz.underlying44 rfl infoName ⟨_, rfl, Fr.refl _ _, rfl, trivial⟩
          case a16_12 =>
           simp only [show u 5 = _ from hR 5 (by kernel_rfl), show u 11 = _ from hR 11 (by kernel_rfl)]
           clear hR k1 k0 kM
           refine .inl ⟨by kernel_rfl, ?_⟩
           go_simp
           refine (CQ.out _).mono ?_
           rintro e w4 ⟨rfl, f4⟩
           exact ⟨_, rfl, f4.weak, rfl, trivial⟩
          case' a16_13 => simp only [show u 12 = _ from hR 12 (by kernel_rfl)]
          all_goals
           clear hR k1 k0 kM
           refine .inl ⟨by kernel_rfl, ?_⟩
           go_simp
           exact ⟨_, rfl, Fr.refl _ _, rfl, trivial⟩
         ·intro u w' hf hR kM
          have kz : u 13 = _ := hR 13 (by omega)
          clear hR kM
          simp only [List.take_succ_cons, List.take_zero, List.map_cons, List.map_nil, puts, Act.put, List.setIfInBounds_toArray, List.set_cons_zero, List.set_cons_succ, List.drop_succ_cons, List.drop_zero, Nat.reduceAdd, Nat.zero_add, kz]
          have HF := Lib.hid hf
          clear hf kz
          have KG := Lib.hid (KG.out.behind HF.out)
          have PX : Hid (w'.cell? ad = some (.pointer (some ⟨x.g, 0, none⟩))) := HF.out.cellSome PX.out (fun x => x)
          have MX : Hid (Mid w' x.g x.nm x.v) := MX.out.fr0 HF.out
          have PY : Hid (w'.cell? bd = some (.pointer (some ⟨y.g, 0, none⟩))) := HF.out.cellSome PY.out (fun x => x)
          have MY : Hid (Mid w' y.g y.nm y.v) := MY.out.fr0 HF.out
          clear HF
          generalize w' = wr at *
          have cpx := PX.out
          go_wp2_with (refine wpList_load_add rfl 44 (.tmp 75) rfl ⟨x.g, 2, none⟩ rfl x.nm.cells _ ?hcc2 Tryz.underlying44 rfl infoName (Held.go ?hold2))
          case hcc2 => exact fun jj v hv => by rw [Addr.add_mid]; exact MX.out.name jj v hv
          unfold Held
          refine wpList_built rfl 55 _ rfl (dropC (ndE x)).cells.toArray _ (by simp only [List.map_toArray, List.map_cons, List.map_nil]; rfl) BD.out (Held.go ?holdb2)
          unfold Held
          refine wpList_buildSlice rfl 49 55 1 _ rfl (dropC (ndE x)).cells.toArray ic zeroC Tryz.underlying49 hic hzc gc1.out gc2.out (by simp only [List.map_toArray, List.map_cons, List.map_nil]; exact gc3.out _) ?_
          refine wpList_app1 _ rfl _ _ 49 rfl 55 ic zeroC 7 80 Tryz.underlying49 hic hzc hc1 hc2 rfl (by decide) _ _ _ rfl KG.out.own 1 (dropC (ndE x)).cells.toArray _ rfl rfl rfl (CV_one _) (by have := DL.out; omega) (by decide) ?_
          intro v9 w9 hG9
          clear cpx
          have KH : Hid (Grew 55 7 w1 (.slice none 0 0) w9 v9 (done.length + 1) (done.flatMap CV.cells ++ (dropC (ndE x)).cells)) := KG.out.trans hG9
          obtain ⟨A9, n9, c9, rfl, _, _⟩ := own_slice hG9.own
          clear hG9 KG
          go_wp2
          go_roundw
          case rel => exact ⟨_, _, _, _, _, _, _, _, done ++ [dropC (ndE x)], rfl, rfl, QA.out.tail, QB.out, by rw [← HD.out, HST.out, List.append_assoc]; rfl, by rw [List.length_append, List.flatMap_append, List.flatMap_singleton]; exact KH.out⟩
          case measure => simp only [lenOfV]; omega
       ·have tl : decide (q < 0) = false := decide_eq_false hl
        by_cases hp : 0 < q
        ·have tg : decide (0 < q) = true := decide_eq_true hp
         have tm : decide (q ≤ 0) = false := decide_eq_false (by omega)
         have tn : decide (0 ≤ q) = true := decide_eq_true (by omega)
         have HST := Lib.hid (dif_gt (ra := x :: ra) (rb := rb) (y := y) (.inr ⟨x, ra, rfl, by rw [HQ.out]; exact hp⟩))
         have BS := Lib.hid (builtDs (ndE y))
         go_upto_region 11 with fail
         refine wp_region_st 8 Nothing [Is (.slice (some ad) NA cA), Is (.pointer (some ad)), Is (.pointer (some ⟨x.g, 0, none⟩)), Is (.slice (some bd) NB cB), Is (.pointer (some bd)), Is (.pointer (some ⟨y.g, 0, none⟩)), Is (.bool true), Is (.bool true)] [] (fun _ => True) (fun _ _ => false) (by kernel_rfl) (by kernel_rfl) (by kernel_rfl) (by kernel_rfl) ⟨Is.stable _, Is.stable _, Is.stable _, Is.stable _, Is.stable _, Is.stable _, Is.stable _, Is.stable _, trivial⟩ trivial (fun _ _ _ _ h => h) trivial ?_ ?_
         ·refine ⟨?a17_0, ?a17_1, ?a17_2, ?a17_3, ?a17_4, ?a17_5, ?a17_6, ?a17_7, trivial⟩
          all_goals intro u w' d hf hR k1 k0 kM
          all_goals simp only [List.take_succ_cons, List.take_zero, List.map_cons, List.map_nil, puts, Act.put, List.setIfInBounds_toArray, List.set_cons_zero, List.set_cons_succ, Nat.reduceAdd, Nat.zero_add]
          case' a17_1 => simp only [show u 0 = _ from hR 0 (by kernel_rfl)]
          case a17_2 =>
           simp only [show u 1 = _ from hR 1 (by kernel_rfl)]
           clear hR k1 k0 kM
           refine .inl ⟨by kernel_rfl, ?_⟩
           have q := hf.cellSome PX.out (fun x => x)
           go_simp
           exact ⟨_, rfl, Fr.refl _ _, rfl, trivial⟩
          case' a17_4 => simp only [show u 3 = _ from hR 3 (by kernel_rfl)]
          case a17_5 =>
           simp only [show u 4 = _ from hR 4 (by kernel_rfl)]
           clear hR k1 k0 kM
           refine .inl ⟨by kernel_rfl, ?_⟩
           have q := hf.cellSome PY.out (fun x => x)
           go_simp
           exact ⟨_, rfl, Fr.refl _ _, rfl, trivial⟩
          case a17_6 =>
           simp only [show u 2 = _ from hR 2 (by kernel_rfl), show u 5 = _ from hR 5 (by kernel_rfl)]
           clear hR k1 k0 kM
           refine .inl ⟨by kernel_rfl, ?_⟩
           have q := neqPN (some ⟨x.g, 0, none⟩) (some ⟨y.g, 0, none⟩) w' (OMX.out.fr0 (FW.out.trans hf)) (OMY.out.fr0 (FW.out.trans hf)) true tpp
           go_simp
           exact ⟨_, rfl, Fr.refl _ _, rfl, trivial⟩
          case' a17_7 => simp only [show u 6 = _ from hR 6 (by kernel_rfl)]
          all_goals
           clear hR k1 k0 kM
           refine .inl ⟨by kernel_rfl, ?_⟩
           go_simp
           exact ⟨_, rfl, Fr.refl _ _, rfl, trivial⟩
         ·intro u w' hf hR kM
          have kz : u 7 = _ := hR 7 (by omega)
          clear hR kM
          simp only [List.take_succ_cons, List.take_zero, List.map_cons, List.map_nil, puts, Act.put, List.setIfInBounds_toArray, List.set_cons_zero, List.set_cons_succ, List.drop_succ_cons, List.drop_zero, Nat.reduceAdd, Nat.zero_add, kz]
          have HF := Lib.hid hf
          clear hf kz
          have KG := Lib.hid (KG.out.behind HF.out)
          have PX : Hid (w'.cell? ad = some (.pointer (some ⟨x.g, 0, none⟩))) := HF.out.cellSome PX.out (fun x => x)
          have MX : Hid (Mid w' x.g x.nm x.v) := MX.out.fr0 HF.out
          have PY : Hid (w'.cell? bd = some (.pointer (some ⟨y.g, 0, none⟩))) := HF.out.cellSome PY.out (fun x => x)
          have MY : Hid (Mid w' y.g y.nm y.v) := MY.out.fr0 HF.out
          clear HF
          generalize w' = wr at *
          go_upto_region 12 with fail
          refine wp_region_st 14 Nothing [Is (.slice (some ad) NA cA), Is (.pointer (some ad)), Is (.pointer (some ⟨x.g, 0, none⟩)), Is (.pointer (some ⟨x.g, 0, none⟩)), Is (.pointer (some ⟨x.g, 2, none⟩)), Is (.agg x.nm.cells.toArray), Is (.slice (some bd) NB cB), Is (.pointer (some bd)), Is (.pointer (some ⟨y.g, 0, none⟩)), Is (.pointer (some ⟨y.g, 0, none⟩)), Is (.pointer (some ⟨y.g, 2, none⟩)), Is (.agg y.nm.cells.toArray), Is (.int .i64 q), Is (.int .i64 q)] [] (fun _ => True) (fun _ _ => false) (by kernel_rfl) (by kernel_rfl) (by kernel_rfl) (by kernel_rfl) ⟨Is.stable _, Is.stable _, Is.stable _, Is.stable _, Is.stable _, Is.stable _, Is.stable _, Is.stable _, Is.stable _, Is.stable _, Is.stable _, Is.stable _, Is.stable _, Is.stable _, trivial⟩ trivial (fun _ _ _ _ h => h) trivial ?_ ?_
          ·refine ⟨?a18_0, ?a18_1, ?a18_2, ?a18_3, ?a18_4, ?a18_5, ?a18_6, ?a18_7, ?a18_8, ?a18_9, ?a18_10, ?a18_11, ?a18_12, ?a18_13, trivial⟩
           all_goals intro u w' d hf hR k1 k0 kM
           all_goals simp only [List.take_succ_cons, List.take_zero, List.map_cons, List.map_nil, puts, Act.put, List.setIfInBounds_toArray, List.set_cons_zero, List.set_cons_succ, Nat.reduceAdd, Nat.zero_add]
           case' a18_1 => simp only [show u 0 = _ from hR 0 (by kernel_rfl)]
           case a18_2 =>
            simp only [show u 1 = _ from hR 1 (by kernel_rfl)]
            clear hR k1 k0 kM
            refine .inl ⟨by kernel_rfl, ?_⟩
            have q := hf.cellSome PX.out (fun x => x)
            go_simp
            exact ⟨_, rfl, Fr.refl _ _, rfl, trivial⟩
           case' a18_3 => simp only [show u 2 = _ from hR 2 (by kernel_rfl)]
           case' a18_4 => simp only [show u 3 = _ from hR 3 (by kernel_rfl)]
           case a18_5 =>
            simp only [show u 4 = _ from hR 4 (by kernel_rfl)]
            clear hR k1 k0 kM
            refine .inl ⟨by kernel_rfl, ?_⟩
            exact wp_load_add _ _ rfl ⟨x.g, 2, none⟩ rfl x.nm.cells _ (fun jj v hv => by rw [Addr.add_mid]; exact (MX.out.fr0 hf).name jj v hv) Tryz.underlying44 rfl infoName ⟨_, rfl, Fr.refl _ _, rfl, trivial⟩
           case' a18_7 => simp only [show u 6 = _ from hR 6 (by kernel_rfl)]
           case a18_8 =>
            simp only [show u 7 = _ from hR 7 (by kernel_rfl)]
            clear hR k1 k0 kM
            refine .inl ⟨by kernel_rfl, ?_⟩
            have q := hf.cellSome PY.out (fun x => x)
            go_simp
            exact ⟨_, rfl, Fr.refl _ _, rfl, trivial⟩
           case' a18_9 => simp only [show u 8 = _ from hR 8 (by kernel_rfl)]
           case' a18_10 => simp only [show u 9 = _ from hR 9 (by kernel_rfl)]
           case a18_11 =>
            simp only [show u 10 = _ from hR 10 (by kernel_rfl)]
            clear hR k1 k0 kM
            refine .inl ⟨by kernel_rfl, ?_⟩
            exact wp_load_add _ _ rfl ⟨y.g, 2, none⟩ rfl y.nm.cells _ (fun jj v hv => by rw [Addr.add_mid]; exact (MY.out.fr0 hf).name jj v hv) Tryz.underlying44 rfl infoName ⟨_, rfl, Fr.refl _ _, rfl, trivial⟩
           case a18_12 =>
            simp only [show u 5 = _ from hR 5 (by kernel_rfl), show u 11 = _ from hR 11 (by kernel_rfl)]
            clear hR k1 k0 kM
            refine .inl ⟨by kernel_rfl, ?_⟩
            go_simp
            refine (CQ.out _).mono ?_
            rintro e w4 ⟨rfl, f4⟩
            exact ⟨_, rfl, f4.weak, rfl, trivial⟩
           case' a18_13 => simp only [show u 12 = _ from hR 12 (by kernel_rfl)]
           all_goals
            clear hR k1 k0 kM
            refine .inl ⟨by kernel_rfl, ?_⟩
            go_simp
            exact ⟨_, rfl, Fr.refl _ _, rfl, trivial⟩
          ·intro u w' hf hR kM
           have kz : u 13 = _ := hR 13 (by omega)
           clear hR kM
           simp only [List.take_succ_cons, List.take_zero, List.map_cons, List.map_nil, puts, Act.put, List.setIfInBounds_toArray, List.set_cons_zero, List.set_cons_succ, List.drop_succ_cons, List.drop_zero, Nat.reduceAdd, Nat.zero_add, kz]
           have HF := Lib.hid hf
           clear hf kz
           have KG := Lib.hid (KG.out.behind HF.out)
           have PX : Hid (w'.cell? ad = some (.pointer (some ⟨x.g, 0, none⟩))) := HF.out.cellSome PX.out (fun x => x)
           have MX : Hid (Mid w' x.g x.nm x.v) := MX.out.fr0 HF.out
           have PY : Hid (w'.cell? bd = some (.pointer (some ⟨y.g, 0, none⟩))) := HF.out.cellSome PY.out (fun x => x)
           have MY : Hid (Mid w' y.g y.nm y.v) := MY.out.fr0 HF.out
           clear HF
           generalize w' = wr at *
           go_upto_region 15 with fail
           refine wp_region_st 18 Nothing [Is (.int .i64 q), Is (.bool true), Is (.bool true), Is (undef), Is (undef), Is (undef), Is (undef), Is (undef), Is (undef), Is (undef), Is (undef), Is (undef), Is (undef), Is (undef), Is (undef), Is (undef), Is (.bool true), Is (.bool true)] [] (fun _ => True) (fun _ _ => false) (by kernel_rfl) (by kernel_rfl) (by kernel_rfl) (by kernel_rfl) ⟨Is.stable _, Is.stable _, Is.stable _, Is.stable _, Is.stable _, Is.stable _, Is.stable _, Is.stable _, Is.stable _, Is.stable _, Is.stable _, Is.stable _, Is.stable _, Is.stable _, Is.stable _, Is.stable _, Is.stable _, Is.stable _, trivial⟩ trivial (fun _ _ _ _ h => h) trivial ?_ ?_
           ·refine ⟨?a19_0, ?a19_1, ?a19_2, ?a19_3, ?a19_4, ?a19_5, ?a19_6, ?a19_7, ?a19_8, ?a19_9, ?a19_10, ?a19_11, ?a19_12, ?a19_13, ?a19_14, ?a19_15, ?a19_16, ?a19_17, trivial⟩
            all_goals intro u w' d hf hR k1 k0 kM
            all_goals simp only [List.take_succ_cons, List.take_zero, List.map_cons, List.map_nil, puts, Act.put, List.setIfInBounds_toArray, List.set_cons_zero, List.set_cons_succ, Nat.reduceAdd, Nat.zero_add]
            case' a19_1 => simp only [show u 0 = _ from hR 0 (by kernel_rfl)]
            case' a19_2 => simp only [show u 1 = _ from hR 1 (by kernel_rfl)]
            case a19_3 => simp only [show u 2 = _ from hR 2 (by kernel_rfl)]; exact .inr ⟨by kernel_rfl, _, rfl, Fr.refl _ _, rfl, trivial⟩
            case a19_4 => simp only [show u 2 = _ from hR 2 (by kernel_rfl)]; exact .inr ⟨by kernel_rfl, _, rfl, Fr.refl _ _, rfl, trivial⟩
            case a19_5 => simp only [show u 2 = _ from hR 2 (by kernel_rfl)]; exact .inr ⟨by kernel_rfl, _, rfl, Fr.refl _ _, rfl, trivial⟩
            case a19_6 => simp only [show u 2 = _ from hR 2 (by kernel_rfl)]; exact .inr ⟨by kernel_rfl, _, rfl, Fr.refl _ _, rfl, trivial⟩
            case a19_7 => simp only [show u 2 = _ from hR 2 (by kernel_rfl)]; exact .inr ⟨by kernel_rfl, _, rfl, Fr.refl _ _, rfl, trivial⟩
            case a19_8 => simp only [show u 2 = _ from hR 2 (by kernel_rfl)]; exact .inr ⟨by kernel_rfl, _, rfl, Fr.refl _ _, rfl, trivial⟩
            case a19_9 => simp only [show u 2 = _ from hR 2 (by kernel_rfl)]; exact .inr ⟨by kernel_rfl, _, rfl, Fr.refl _ _, rfl, trivial⟩
            case a19_10 => simp only [show u 2 = _ from hR 2 (by kernel_rfl)]; exact .inr ⟨by kernel_rfl, _, rfl, Fr.refl _ _, rfl, trivial⟩
            case a19_11 => simp only [show u 2 = _ from hR 2 (by kernel_rfl)]; exact .inr ⟨by kernel_rfl, _, rfl, Fr.refl _ _, rfl, trivial⟩
            case a19_12 => simp only [show u 2 = _ from hR 2 (by kernel_rfl)]; exact .inr ⟨by kernel_rfl, _, rfl, Fr.refl _ _, rfl, trivial⟩
            case a19_13 => simp only [show u 2 = _ from hR 2 (by kernel_rfl)]; exact .inr ⟨by kernel_rfl, _, rfl, Fr.refl _ _, rfl, trivial⟩
            case a19_14 => simp only [show u 2 = _ from hR 2 (by kernel_rfl)]; exact .inr ⟨by kernel_rfl, _, rfl, Fr.refl _ _, rfl, trivial⟩
            case a19_15 => simp only [show u 2 = _ from hR 2 (by kernel_rfl)]; exact .inr ⟨by kernel_rfl, _, rfl, Fr.refl _ _, rfl, trivial⟩
            case' a19_16 => simp only [show u 2 = _ from hR 2 (by kernel_rfl), show u 15 = _ from hR 15 (by kernel_rfl)]
            case' a19_17 => simp only [show u 16 = _ from hR 16 (by kernel_rfl)]
            all_goals
             clear hR k1 k0 kM
             refine .inl ⟨by kernel_rfl, ?_⟩
             go_simp
             exact ⟨_, rfl, Fr.refl _ _, rfl, trivial⟩
           ·intro u w' hf hR kM
            have kz : u 17 = _ := hR 17 (by omega)
            clear hR kM
            simp only [List.take_succ_cons, List.take_zero, List.map_cons, List.map_nil, puts, Act.put, List.setIfInBounds_toArray, List.set_cons_zero, List.set_cons_succ, List.drop_succ_cons, List.drop_zero, Nat.reduceAdd, Nat.zero_add, kz]
            have HF := Lib.hid hf
            clear hf kz
            have KG := Lib.hid (KG.out.behind HF.out)
            have PX : Hid (w'.cell? ad = some (.pointer (some ⟨x.g, 0, none⟩))) := HF.out.cellSome PX.out (fun x => x)
            have MX : Hid (Mid w' x.g x.nm x.v) := MX.out.fr0 HF.out
            have PY : Hid (w'.cell? bd = some (.pointer (some ⟨y.g, 0, none⟩))) := HF.out.cellSome PY.out (fun x => x)
            have MY : Hid (Mid w' y.g y.nm y.v) := MY.out.fr0 HF.out
            clear HF
            generalize w' = wr at *
            go_upto_region 16 with fail
            refine wp_region_st 15 Nothing [Is (.slice A5 done.length c5), Is (.slice (some bd) NB cB), Is (.pointer (some bd)), Is (.pointer (some ⟨y.g, 0, none⟩)), Is (.pointer (some ⟨y.g, 0, none⟩)), Is (.pointer (some ⟨y.g, 2, none⟩)), Is (.agg y.nm.cells.toArray), Is (.slice (some bd) NB cB), Is (.pointer (some bd)), Is (.pointer (some ⟨y.g, 0, none⟩)), Is (.pointer (some ⟨y.g, 0, none⟩)), Is (.pointer (some ⟨y.g, 7, none⟩)), Is (.string y.v), Is (.agg (setC (ndE y)).cells.toArray), (fun zv zW => ∃ g, zv = .slice (some ⟨g, 0, none⟩) 1 1 ∧ Rd zW (fun _ => True) 7 (some ⟨g, 0, none⟩) 1 (setC (ndE y)).cells)] [] (fun _ => True) (fun _ _ => false) (by kernel_rfl) (by kernel_rfl) (by kernel_rfl) (by kernel_rfl) ⟨Is.stable _, Is.stable _, Is.stable _, Is.stable _, Is.stable _, Is.stable _, Is.stable _, Is.stable _, Is.stable _, Is.stable _, Is.stable _, Is.stable _, Is.stable _, Is.stable _, fun _ _ _ _ f h => by obtain ⟨g, e, r⟩ := h; exact ⟨g, e, r.fr0 f⟩, trivial⟩ trivial (fun _ _ _ _ h => h) trivial ?_ ?_
            ·refine ⟨?a20_0, ?a20_1, ?a20_2, ?a20_3, ?a20_4, ?a20_5, ?a20_6, ?a20_7, ?a20_8, ?a20_9, ?a20_10, ?a20_11, ?a20_12, ?a20_13, ?a20_14, trivial⟩
             all_goals intro u w' d hf hR k1 k0 kM
             all_goals simp only [List.take_succ_cons, List.take_zero, List.map_cons, List.map_nil, puts, Act.put, List.setIfInBounds_toArray, List.set_cons_zero, List.set_cons_succ, Nat.reduceAdd, Nat.zero_add]
             case' a20_2 => simp only [show u 1 = _ from hR 1 (by kernel_rfl)]
             case a20_3 =>
              simp only [show u 2 = _ from hR 2 (by kernel_rfl)]
              clear hR k1 k0 kM
              refine .inl ⟨by kernel_rfl, ?_⟩
              have q := hf.cellSome PY.out (fun x => x)
              go_simp
              exact ⟨_, rfl, Fr.refl _ _, rfl, trivial⟩
             case' a20_4 => simp only [show u 3 = _ from hR 3 (by kernel_rfl)]
             case' a20_5 => simp only [show u 4 = _ from hR 4 (by kernel_rfl)]
             case a20_6 =>
              simp only [show u 5 = _ from hR 5 (by kernel_rfl)]
              clear hR k1 k0 kM
              refine .inl ⟨by kernel_rfl, ?_⟩
              exact wp_load_add _ _ rfl ⟨y.g, 2, none⟩ rfl y.nm.cells _ (fun jj v hv => by rw [Addr.add_mid]; exact (MY.out.fr0 hf).name jj v hv) Tryz.underlying44 rfl infoName ⟨_, rfl, Fr.refl _ _, rfl, trivial⟩
             case' a20_8 => simp only [show u 7 = _ from hR 7 (by kernel_rfl)]
             case a20_9 =>
              simp only [show u 8 = _ from hR 8 (by kernel_rfl)]
              clear hR k1 k0 kM
              refine .inl ⟨by kernel_rfl, ?_⟩
              have q := hf.cellSome PY.out (fun x => x)
              go_simp
              exact ⟨_, rfl, Fr.refl _ _, rfl, trivial⟩
             case' a20_10 => simp only [show u 9 = _ from hR 9 (by kernel_rfl)]
             case' a20_11 => simp only [show u 10 = _ from hR 10 (by kernel_rfl)]
             case a20_12 =>
              simp only [show u 11 = _ from hR 11 (by kernel_rfl)]
              clear hR k1 k0 kM
              refine .inl ⟨by kernel_rfl, ?_⟩
              have q := (MY.out.fr0 hf).val
              go_simp
              exact ⟨_, rfl, Fr.refl _ _, rfl, trivial⟩
             case a20_13 =>
              simp only [show u 6 = _ from hR 6 (by kernel_rfl), show u 12 = _ from hR 12 (by kernel_rfl)]
              clear hR k1 k0 kM
              refine .inl ⟨by kernel_rfl, ?_⟩
              exact wp_builtA 55 _ rfl (setC (ndE y)).cells.toArray _ (by simp only [List.map_toArray, List.map_cons, List.map_nil]; rfl) BS.out ⟨_, rfl, Fr.refl _ _, rfl, trivial⟩
             case a20_14 =>
              simp only [show u 13 = _ from hR 13 (by kernel_rfl)]
              clear hR k1 k0 kM
              refine .inl ⟨by kernel_rfl, ?_⟩
              refine wp_buildSlice 49 55 1 _ rfl (setC (ndE y)).cells.toArray ic zeroC Tryz.underlying49 hic hzc gc1.out gc2.out (by simp only [List.map_toArray, List.map_cons, List.map_nil]; exact gc3.out _) ?_
              exact ⟨_, rfl, (Fr.refl _ _).alloc _, ⟨_, rfl, (rd_new w' (setC (ndE y)).cells.toArray 55 7 1 rfl).any⟩, trivial⟩
             all_goals
              clear hR k1 k0 kM
              refine .inl ⟨by kernel_rfl, ?_⟩
              go_simp
              exact ⟨_, rfl, Fr.refl _ _, rfl, trivial⟩
            ·intro u w' hf hR kM
             have k0 : u 0 = _ := hR 0 (by omega)
             obtain ⟨g9, k12, rd9⟩ := hR 14 (by omega)
             clear hR kM
             simp only [List.take_succ_cons, List.take_zero, List.map_cons, List.map_nil, puts, Act.put, List.setIfInBounds_toArray, List.set_cons_zero, List.set_cons_succ, List.drop_succ_cons, List.drop_zero, Nat.reduceAdd, Nat.zero_add, k0, k12]
             have KG := Lib.hid (KG.out.behind hf)
             have RD9 := Lib.hid rd9
             clear hf k0 k12 rd9
             refine wpList_app _ rfl _ _ 49 rfl 55 ic zeroC 7 80 Tryz.underlying49 hic hzc hc1 hc2 rfl (by decide) _ _ _ rfl KG.out.own _ _ 1 1 _ rfl RD9.out (CV_one _) (by have := DL.out; omega) (by decide) ?_
             intro v9 w9 hG9
             have KH : Hid (Grew 55 7 w1 (.slice none 0 0) w9 v9 (done.length + 1) (done.flatMap CV.cells ++ (setC (ndE y)).cells)) := KG.out.trans hG9
             obtain ⟨A9, n9, c9, rfl, _, _⟩ := own_slice hG9.own
             clear hG9 KG
             go_wp2
             go_roundw
             case rel => exact ⟨_, _, _, _, _, _, _, _, done ++ [setC (ndE y)], rfl, rfl, QA.out, QB.out.tail, by rw [← HD.out, HST.out, List.append_assoc]; rfl, by rw [List.length_append, List.flatMap_append, List.flatMap_singleton]; exact KH.out⟩
             case measure => simp only [lenOfV]; omega
        ·obtain rfl : q = 0 := by omega
         have h0 : cmpN x.nm y.nm = 0 := HQ.out
         cases hv : (x.v == y.v)
         ·have tv : (x.v.toList == y.v.toList) = false := by rw [beqL]; exact hv
          have HST := Lib.hid (dif_other (ra := ra) (rb := rb) h0 hv)
          have BS := Lib.hid (builtDs (ndE y))
          clear hv h0
          go_upto_region 11 with fail
          refine wp_region_st 8 Nothing [Is (.slice (some ad) NA cA), Is (.pointer (some ad)), Is (.pointer (some ⟨x.g, 0, none⟩)), Is (.slice (some bd) NB cB), Is (.pointer (some bd)), Is (.pointer (some ⟨y.g, 0, none⟩)), Is (.bool true), Is (.bool true)] [] (fun _ => True) (fun _ _ => false) (by kernel_rfl) (by kernel_rfl) (by kernel_rfl) (by kernel_rfl) ⟨Is.stable _, Is.stable _, Is.stable _, Is.stable _, Is.stable _, Is.stable _, Is.stable _, Is.stable _, trivial⟩ trivial (fun _ _ _ _ h => h) trivial ?_ ?_
          ·refine ⟨?a21_0, ?a21_1, ?a21_2, ?a21_3, ?a21_4, ?a21_5, ?a21_6, ?a21_7, trivial⟩
           all_goals intro u w' d hf hR k1 k0 kM
           all_goals simp only [List.take_succ_cons, List.take_zero, List.map_cons, List.map_nil, puts, Act.put, List.setIfInBounds_toArray, List.set_cons_zero, List.set_cons_succ, Nat.reduceAdd, Nat.zero_add]
           case' a21_1 => simp only [show u 0 = _ from hR 0 (by kernel_rfl)]
           case a21_2 =>
            simp only [show u 1 = _ from hR 1 (by kernel_rfl)]
            clear hR k1 k0 kM
            refine .inl ⟨by kernel_rfl, ?_⟩
            have q := hf.cellSome PX.out (fun x => x)
            go_simp
            exact ⟨_, rfl, Fr.refl _ _, rfl, trivial⟩
           case' a21_4 => simp only [show u 3 = _ from hR 3 (by kernel_rfl)]
           case a21_5 =>
            simp only [show u 4 = _ from hR 4 (by kernel_rfl)]
            clear hR k1 k0 kM
            refine .inl ⟨by kernel_rfl, ?_⟩
            have q := hf.cellSome PY.out (fun x => x)
            go_simp
            exact ⟨_, rfl, Fr.refl _ _, rfl, trivial⟩
           case a21_6 =>
            simp only [show u 2 = _ from hR 2 (by kernel_rfl), show u 5 = _ from hR 5 (by kernel_rfl)]
            clear hR k1 k0 kM
            refine .inl ⟨by kernel_rfl, ?_⟩
            have q := neqPN (some ⟨x.g, 0, none⟩) (some ⟨y.g, 0, none⟩) w' (OMX.out.fr0 (FW.out.trans hf)) (OMY.out.fr0 (FW.out.trans hf)) true tpp
            go_simp
            exact ⟨_, rfl, Fr.refl _ _, rfl, trivial⟩
           case' a21_7 => simp only [show u 6 = _ from hR 6 (by kernel_rfl)]
           all_goals
            clear hR k1 k0 kM
            refine .inl ⟨by kernel_rfl, ?_⟩
            go_simp
            exact ⟨_, rfl, Fr.refl _ _, rfl, trivial⟩
          ·intro u w' hf hR kM
           have kz : u 7 = _ := hR 7 (by omega)
           clear hR kM
           simp only [List.take_succ_cons, List.take_zero, List.map_cons, List.map_nil, puts, Act.put, List.setIfInBounds_toArray, List.set_cons_zero, List.set_cons_succ, List.drop_succ_cons, List.drop_zero, Nat.reduceAdd, Nat.zero_add, kz]
           have HF := Lib.hid hf
           clear hf kz
           have KG := Lib.hid (KG.out.behind HF.out)
           have PX : Hid (w'.cell? ad = some (.pointer (some ⟨x.g, 0, none⟩))) := HF.out.cellSome PX.out (fun x => x)
           have MX : Hid (Mid w' x.g x.nm x.v) := MX.out.fr0 HF.out
           have PY : Hid (w'.cell? bd = some (.pointer (some ⟨y.g, 0, none⟩))) := HF.out.cellSome PY.out (fun x => x)
           have MY : Hid (Mid w' y.g y.nm y.v) := MY.out.fr0 HF.out
           clear HF
           generalize w' = wr at *
           go_upto_region 12 with fail
           refine wp_region_st 14 Nothing [Is (.slice (some ad) NA cA), Is (.pointer (some ad)), Is (.pointer (some ⟨x.g, 0, none⟩)), Is (.pointer (some ⟨x.g, 0, none⟩)), Is (.pointer (some ⟨x.g, 2, none⟩)), Is (.agg x.nm.cells.toArray), Is (.slice (some bd) NB cB), Is (.pointer (some bd)), Is (.pointer (some ⟨y.g, 0, none⟩)), Is (.pointer (some ⟨y.g, 0, none⟩)), Is (.pointer (some ⟨y.g, 2, none⟩)), Is (.agg y.nm.cells.toArray), Is (.int .i64 0), Is (.int .i64 0)] [] (fun _ => True) (fun _ _ => false) (by kernel_rfl) (by kernel_rfl) (by kernel_rfl) (by kernel_rfl) ⟨Is.stable _, Is.stable _, Is.stable _, Is.stable _, Is.stable _, Is.stable _, Is.stable _, Is.stable _, Is.stable _, Is.stable _, Is.stable _, Is.stable _, Is.stable _, Is.stable _, trivial⟩ trivial (fun _ _ _ _ h => h) trivial ?_ ?_
           ·refine ⟨?a22_0, ?a22_1, ?a22_2, ?a22_3, ?a22_4, ?a22_5, ?a22_6, ?a22_7, ?a22_8, ?a22_9, ?a22_10, ?a22_11, ?a22_12, ?a22_13, trivial⟩
            all_goals intro u w' d hf hR k1 k0 kM
            all_goals simp only [List.take_succ_cons, List.take_zero, List.map_cons, List.map_nil, puts, Act.put, List.setIfInBounds_toArray, List.set_cons_zero, List.set_cons_succ, Nat.reduceAdd, Nat.zero_add]
            case' a22_1 => simp only [show u 0 = _ from hR 0 (by kernel_rfl)]
            case a22_2 =>
             simp only [show u 1 = _ from hR 1 (by kernel_rfl)]
             clear hR k1 k0 kM
             refine .inl ⟨by kernel_rfl, ?_⟩
             have q := hf.cellSome PX.out (fun x => x)
             go_simp
             exact ⟨_, rfl, Fr.refl _ _, rfl, trivial⟩
            case' a22_3 => simp only [show u 2 = _ from hR 2 (by kernel_rfl)]
            case' a22_4 => simp only [show u 3 = _ from hR 3 (by kernel_rfl)]
            case a22_5 =>
             simp only [show u 4 = _ from hR 4 (by kernel_rfl)]
             clear hR k1 k0 kM
             refine .inl ⟨by kernel_rfl, ?_⟩
             exact wp_load_add _ _ rfl ⟨x.g, 2, none⟩ rfl x.nm.cells _ (fun jj v hv => by rw [Addr.add_mid]; exact (MX.out.fr0 hf).name jj v hv) Tryz.underlying44 rfl infoName ⟨_, rfl, Fr.refl _ _, rfl, trivial⟩
            case' a22_7 => simp only [show u 6 = _ from hR 6 (by kernel_rfl)]
            case a22_8 =>
             simp only [show u 7 = _ from hR 7 (by kernel_rfl)]
             clear hR k1 k0 kM
             refine .inl ⟨by kernel_rfl, ?_⟩
             have q := hf.cellSome PY.out (fun x => x)
             go_simp
             exact ⟨_, rfl, Fr.refl _ _, rfl, trivial⟩
            case' a22_9 => simp only [show u 8 = _ from hR 8 (by kernel_rfl)]
            case' a22_10 => simp only [show u 9 = _ from hR 9 (by kernel_rfl)]
            case a22_11 =>
             simp only [show u 10 = _ from hR 10 (by kernel_rfl)]
             clear hR k1 k0 kM
             refine .inl ⟨by kernel_rfl, ?_⟩
             exact wp_load_add _ _ rfl ⟨y.g, 2, none⟩ rfl y.nm.cells _ (fun jj v hv => by rw [Addr.add_mid]; exact (MY.out.fr0 hf).name jj v hv) Tryz.underlying44 rfl infoName ⟨_, rfl, Fr.refl _ _, rfl, trivial⟩
            case a22_12 =>
             simp only [show u 5 = _ from hR 5 (by kernel_rfl), show u 11 = _ from hR 11 (by kernel_rfl)]
             clear hR k1 k0 kM
             refine .inl ⟨by kernel_rfl, ?_⟩
             go_simp
             refine (CQ.out _).mono ?_
             rintro e w4 ⟨rfl, f4⟩
             exact ⟨_, rfl, f4.weak, rfl, trivial⟩
            case' a22_13 => simp only [show u 12 = _ from hR 12 (by kernel_rfl)]
            all_goals
             clear hR k1 k0 kM
             refine .inl ⟨by kernel_rfl, ?_⟩
             go_simp
             exact ⟨_, rfl, Fr.refl _ _, rfl, trivial⟩
           ·intro u w' hf hR kM
            have kz : u 13 = _ := hR 13 (by omega)
            clear hR kM
            simp only [List.take_succ_cons, List.take_zero, List.map_cons, List.map_nil, puts, Act.put, List.setIfInBounds_toArray, List.set_cons_zero, List.set_cons_succ, List.drop_succ_cons, List.drop_zero, Nat.reduceAdd, Nat.zero_add, kz]
            have HF := Lib.hid hf
            clear hf kz
            have KG := Lib.hid (KG.out.behind HF.out)
            have PX : Hid (w'.cell? ad = some (.pointer (some ⟨x.g, 0, none⟩))) := HF.out.cellSome PX.out (fun x => x)
            have MX : Hid (Mid w' x.g x.nm x.v) := MX.out.fr0 HF.out
            have PY : Hid (w'.cell? bd = some (.pointer (some ⟨y.g, 0, none⟩))) := HF.out.cellSome PY.out (fun x => x)
            have MY : Hid (Mid w' y.g y.nm y.v) := MY.out.fr0 HF.out
            clear HF
            generalize w' = wr at *
            go_upto_region 15 with fail
            refine wp_region_st 18 Nothing [Is (.int .i64 0), Is (.bool false), Is (.bool false), Is (.slice (some ad) NA cA), Is (.pointer (some ad)), Is (.pointer (some ⟨x.g, 0, none⟩)), Is (.pointer (some ⟨x.g, 0, none⟩)), Is (.pointer (some ⟨x.g, 7, none⟩)), Is (.string x.v), Is (.slice (some bd) NB cB), Is (.pointer (some bd)), Is (.pointer (some ⟨y.g, 0, none⟩)), Is (.pointer (some ⟨y.g, 0, none⟩)), Is (.pointer (some ⟨y.g, 7, none⟩)), Is (.string y.v), Is (.bool true), Is (.bool true), Is (.bool true)] [] (fun _ => True) (fun _ _ => false) (by kernel_rfl) (by kernel_rfl) (by kernel_rfl) (by kernel_rfl) ⟨Is.stable _, Is.stable _, Is.stable _, Is.stable _, Is.stable _, Is.stable _, Is.stable _, Is.stable _, Is.stable _, Is.stable _, Is.stable _, Is.stable _, Is.stable _, Is.stable _, Is.stable _, Is.stable _, Is.stable _, Is.stable _, trivial⟩ trivial (fun _ _ _ _ h => h) trivial ?_ ?_
            ·refine ⟨?a23_0, ?a23_1, ?a23_2, ?a23_3, ?a23_4, ?a23_5, ?a23_6, ?a23_7, ?a23_8, ?a23_9, ?a23_10, ?a23_11, ?a23_12, ?a23_13, ?a23_14, ?a23_15, ?a23_16, ?a23_17, trivial⟩
             all_goals intro u w' d hf hR k1 k0 kM
             all_goals simp only [List.take_succ_cons, List.take_zero, List.map_cons, List.map_nil, puts, Act.put, List.setIfInBounds_toArray, List.set_cons_zero, List.set_cons_succ, Nat.reduceAdd, Nat.zero_add]
             case' a23_1 => simp only [show u 0 = _ from hR 0 (by kernel_rfl)]
             case' a23_2 => simp only [show u 1 = _ from hR 1 (by kernel_rfl)]
             case' a23_3 => simp only [show u 2 = _ from hR 2 (by kernel_rfl)]
             case' a23_4 => simp only [show u 3 = _ from hR 3 (by kernel_rfl), show u 2 = _ from hR 2 (by kernel_rfl)]
             case a23_5 =>
              simp only [show u 4 = _ from hR 4 (by kernel_rfl), show u 2 = _ from hR 2 (by kernel_rfl)]
              clear hR k1 k0 kM
              refine .inl ⟨by kernel_rfl, ?_⟩
              have q := hf.cellSome PX.out (fun x => x)
              go_simp
              exact ⟨_, rfl, Fr.refl _ _, rfl, trivial⟩
             case' a23_6 => simp only [show u 5 = _ from hR 5 (by kernel_rfl), show u 2 = _ from hR 2 (by kernel_rfl)]
             case' a23_7 => simp only [show u 6 = _ from hR 6 (by kernel_rfl), show u 2 = _ from hR 2 (by kernel_rfl)]
             case a23_8 =>
              simp only [show u 7 = _ from hR 7 (by kernel_rfl), show u 2 = _ from hR 2 (by kernel_rfl)]
              clear hR k1 k0 kM
              refine .inl ⟨by kernel_rfl, ?_⟩
              have q := (MX.out.fr0 hf).val
              go_simp
              exact ⟨_, rfl, Fr.refl _ _, rfl, trivial⟩
             case' a23_9 => simp only [show u 2 = _ from hR 2 (by kernel_rfl)]
             case' a23_10 => simp only [show u 9 = _ from hR 9 (by kernel_rfl), show u 2 = _ from hR 2 (by kernel_rfl)]
             case a23_11 =>
              simp only [show u 10 = _ from hR 10 (by kernel_rfl), show u 2 = _ from hR 2 (by kernel_rfl)]
              clear hR k1 k0 kM
              refine .inl ⟨by kernel_rfl, ?_⟩
              have q := hf.cellSome PY.out (fun x => x)
              go_simp
              exact ⟨_, rfl, Fr.refl _ _, rfl, trivial⟩
             case' a23_12 => simp only [show u 11 = _ from hR 11 (by kernel_rfl), show u 2 = _ from hR 2 (by kernel_rfl)]
             case' a23_13 => simp only [show u 12 = _ from hR 12 (by kernel_rfl), show u 2 = _ from hR 2 (by kernel_rfl)]
             case a23_14 =>
              simp only [show u 13 = _ from hR 13 (by kernel_rfl), show u 2 = _ from hR 2 (by kernel_rfl)]
              clear hR k1 k0 kM
              refine .inl ⟨by kernel_rfl, ?_⟩
              have q := (MY.out.fr0 hf).val
              go_simp
              exact ⟨_, rfl, Fr.refl _ _, rfl, trivial⟩
             case' a23_15 => simp only [show u 8 = _ from hR 8 (by kernel_rfl), show u 14 = _ from hR 14 (by kernel_rfl), show u 2 = _ from hR 2 (by kernel_rfl)]
             case' a23_16 => simp only [show u 2 = _ from hR 2 (by kernel_rfl), show u 15 = _ from hR 15 (by kernel_rfl)]
             case' a23_17 => simp only [show u 16 = _ from hR 16 (by kernel_rfl)]
             all_goals
              clear hR k1 k0 kM
              refine .inl ⟨by kernel_rfl, ?_⟩
              go_simp
              exact ⟨_, rfl, Fr.refl _ _, rfl, trivial⟩
            ·intro u w' hf hR kM
             have kz : u 17 = _ := hR 17 (by omega)
             clear hR kM
             simp only [List.take_succ_cons, List.take_zero, List.map_cons, List.map_nil, puts, Act.put, List.setIfInBounds_toArray, List.set_cons_zero, List.set_cons_succ, List.drop_succ_cons, List.drop_zero, Nat.reduceAdd, Nat.zero_add, kz]
             have HF := Lib.hid hf
             clear hf kz
             have KG := Lib.hid (KG.out.behind HF.out)
             have PX : Hid (w'.cell? ad = some (.pointer (some ⟨x.g, 0, none⟩))) := HF.out.cellSome PX.out (fun x => x)
             have MX : Hid (Mid w' x.g x.nm x.v) := MX.out.fr0 HF.out
             have PY : Hid (w'.cell? bd = some (.pointer (some ⟨y.g, 0, none⟩))) := HF.out.cellSome PY.out (fun x => x)
             have MY : Hid (Mid w' y.g y.nm y.v) := MY.out.fr0 HF.out
             clear HF
             generalize w' = wr at *
             go_upto_region 16 with fail
             refine wp_region_st 15 Nothing [Is (.slice A5 done.length c5), Is (.slice (some bd) NB cB), Is (.pointer (some bd)), Is (.pointer (some ⟨y.g, 0, none⟩)), Is (.pointer (some ⟨y.g, 0, none⟩)), Is (.pointer (some ⟨y.g, 2, none⟩)), Is (.agg y.nm.cells.toArray), Is (.slice (some bd) NB cB), Is (.pointer (some bd)), Is (.pointer (some ⟨y.g, 0, none⟩)), Is (.pointer (some ⟨y.g, 0, none⟩)), Is (.pointer (some ⟨y.g, 7, none⟩)), Is (.string y.v), Is (.agg (setC (ndE y)).cells.toArray), (fun zv zW => ∃ g, zv = .slice (some ⟨g, 0, none⟩) 1 1 ∧ Rd zW (fun _ => True) 7 (some ⟨g, 0, none⟩) 1 (setC (ndE y)).cells)] [] (fun _ => True) (fun _ _ => false) (by kernel_rfl) (by kernel_rfl) (by kernel_rfl) (by kernel_rfl) ⟨Is.stable _, Is.stable _, Is.stable _, Is.stable _, Is.stable _, Is.stable _, Is.stable _, Is.stable _, Is.stable _, Is.stable _, Is.stable _, Is.stable _, Is.stable _, Is.stable _, fun _ _ _ _ f h => by obtain ⟨g, e, r⟩ := h; exact ⟨g, e, r.fr0 f⟩, trivial⟩ trivial (fun _ _ _ _ h => h) trivial ?_ ?_
             ·refine ⟨?a24_0, ?a24_1, ?a24_2, ?a24_3, ?a24_4, ?a24_5, ?a24_6, ?a24_7, ?a24_8, ?a24_9, ?a24_10, ?a24_11, ?a24_12, ?a24_13, ?a24_14, trivial⟩
              all_goals intro u w' d hf hR k1 k0 kM
              all_goals simp only [List.take_succ_cons, List.take_zero, List.map_cons, List.map_nil, puts, Act.put, List.setIfInBounds_toArray, List.set_cons_zero, List.set_cons_succ, Nat.reduceAdd, Nat.zero_add]
              case' a24_2 => simp only [show u 1 = _ from hR 1 (by kernel_rfl)]
              case a24_3 =>
               simp only [show u 2 = _ from hR 2 (by kernel_rfl)]
               clear hR k1 k0 kM
               refine .inl ⟨by kernel_rfl, ?_⟩
               have q := hf.cellSome PY.out (fun x => x)
               go_simp
               exact ⟨_, rfl, Fr.refl _ _, rfl, trivial⟩
              case' a24_4 => simp only [show u 3 = _ from hR 3 (by kernel_rfl)]
              case' a24_5 => simp only [show u 4 = _ from hR 4 (by kernel_rfl)]
              case a24_6 =>
               simp only [show u 5 = _ from hR 5 (by kernel_rfl)]
               clear hR k1 k0 kM
               refine .inl ⟨by kernel_rfl, ?_⟩
               exact wp_load_add _ _ rfl ⟨y.g, 2, none⟩ rfl y.nm.cells _ (fun jj v hv => by rw [Addr.add_mid]; exact (MY.out.fr0 hf).name jj v hv) Tryz.underlying44 rfl infoName ⟨_, rfl, Fr.refl _ _, rfl, trivial⟩
              case' a24_8 => simp only [show u 7 = _ from hR 7 (by kernel_rfl)]
              case a24_9 =>
               simp only [show u 8 = _ from hR 8 (by kernel_rfl)]
               clear hR k1 k0 kM
               refine .inl ⟨by kernel_rfl, ?_⟩
               have q := hf.cellSome PY.out (fun x => x)
               go_simp
               exact ⟨_, rfl, Fr.refl _ _, rfl, trivial⟩
              case' a24_10 => simp only [show u 9 = _ from hR 9 (by kernel_rfl)]
              case' a24_11 => simp only [show u 10 = _ from hR 10 (by kernel_rfl)]
              case a24_12 =>
               simp only [show u 11 = _ from hR 11 (by kernel_rfl)]
               clear hR k1 k0 kM
               refine .inl ⟨by kernel_rfl, ?_⟩
               have q := (MY.out.fr0 hf).val
               go_simp
               exact ⟨_, rfl, Fr.refl _ _, rfl, trivial⟩
              case a24_13 =>
               simp only [show u 6 = _ from hR 6 (by kernel_rfl), show u 12 = _ from hR 12 (by kernel_rfl)]
               clear hR k1 k0 kM
               refine .inl ⟨by kernel_rfl, ?_⟩
               exact wp_builtA 55 _ rfl (setC (ndE y)).cells.toArray _ (by simp only [List.map_toArray, List.map_cons, List.map_nil]; rfl) BS.out ⟨_, rfl, Fr.refl _ _, rfl, trivial⟩
              case a24_14 =>
               simp only [show u 13 = _ from hR 13 (by kernel_rfl)]
               clear hR k1 k0 kM
               refine .inl ⟨by kernel_rfl, ?_⟩
               refine wp_buildSlice 49 55 1 _ rfl (setC (ndE y)).cells.toArray ic zeroC Tryz.underlying49 hic hzc gc1.out gc2.out (by simp only [List.map_toArray, List.map_cons, List.map_nil]; exact gc3.out _) ?_
               exact ⟨_, rfl, (Fr.refl _ _).alloc _, ⟨_, rfl, (rd_new w' (setC (ndE y)).cells.toArray 55 7 1 rfl).any⟩, trivial⟩
              all_goals
               clear hR k1 k0 kM
               refine .inl ⟨by kernel_rfl, ?_⟩
               go_simp
               exact ⟨_, rfl, Fr.refl _ _, rfl, trivial⟩
             ·intro u w' hf hR kM
              have k0 : u 0 = _ := hR 0 (by omega)
              obtain ⟨g9, k12, rd9⟩ := hR 14 (by omega)
              clear hR kM
              simp only [List.take_succ_cons, List.take_zero, List.map_cons, List.map_nil, puts, Act.put, List.setIfInBounds_toArray, List.set_cons_zero, List.set_cons_succ, List.drop_succ_cons, List.drop_zero, Nat.reduceAdd, Nat.zero_add, k0, k12]
              have KG := Lib.hid (KG.out.behind hf)
              have RD9 := Lib.hid rd9
              clear hf k0 k12 rd9
              refine wpList_app _ rfl _ _ 49 rfl 55 ic zeroC 7 80 Tryz.underlying49 hic hzc hc1 hc2 rfl (by decide) _ _ _ rfl KG.out.own _ _ 1 1 _ rfl RD9.out (CV_one _) (by have := DL.out; omega) (by decide) ?_
              intro v9 w9 hG9
              have KH : Hid (Grew 55 7 w1 (.slice none 0 0) w9 v9 (done.length + 1) (done.flatMap CV.cells ++ (setC (ndE y)).cells)) := KG.out.trans hG9
              obtain ⟨A9, n9, c9, rfl, _, _⟩ := own_slice hG9.own
              clear hG9 KG
              go_wp2
              go_roundw
              case rel => exact ⟨_, _, _, _, _, _, _, _, done ++ [setC (ndE y)], rfl, rfl, QA.out.tail, QB.out.tail, by rw [← HD.out, HST.out, List.append_assoc]; rfl, by rw [List.length_append, List.flatMap_append, List.flatMap_singleton]; exact KH.out⟩
              case measure => simp only [lenOfV]; omega
         ·have tv : (x.v.toList == y.v.toList) = true := by rw [beqL]; exact hv
          have HST := Lib.hid (dif_same (ra := ra) (rb := rb) h0 hv)
          clear hv h0
          go_upto_region 11 with fail
          refine wp_region_st 8 Nothing [Is (.slice (some ad) NA cA), Is (.pointer (some ad)), Is (.pointer (some ⟨x.g, 0, none⟩)), Is (.slice (some bd) NB cB), Is (.pointer (some bd)), Is (.pointer (some ⟨y.g, 0, none⟩)), Is (.bool true), Is (.bool true)] [] (fun _ => True) (fun _ _ => false) (by kernel_rfl) (by kernel_rfl) (by kernel_rfl) (by kernel_rfl) ⟨Is.stable _, Is.stable _, Is.stable _, Is.stable _, Is.stable _, Is.stable _, Is.stable _, Is.stable _, trivial⟩ trivial (fun _ _ _ _ h => h) trivial ?_ ?_
          ·refine ⟨?a25_0, ?a25_1, ?a25_2, ?a25_3, ?a25_4, ?a25_5, ?a25_6, ?a25_7, trivial⟩
           all_goals intro u w' d hf hR k1 k0 kM
           all_goals simp only [List.take_succ_cons, List.take_zero, List.map_cons, List.map_nil, puts, Act.put, List.setIfInBounds_toArray, List.set_cons_zero, List.set_cons_succ, Nat.reduceAdd, Nat.zero_add]
           case' a25_1 => simp only [show u 0 = _ from hR 0 (by kernel_rfl)]
           case a25_2 =>
            simp only [show u 1 = _ from hR 1 (by kernel_rfl)]
            clear hR k1 k0 kM
            refine .inl ⟨by kernel_rfl, ?_⟩
            have q := hf.cellSome PX.out (fun x => x)
            go_simp
            exact ⟨_, rfl, Fr.refl _ _, rfl, trivial⟩
           case' a25_4 => simp only [show u 3 = _ from hR 3 (by kernel_rfl)]
           case a25_5 =>
            simp only [show u 4 = _ from hR 4 (by kernel_rfl)]
            clear hR k1 k0 kM
            refine .inl ⟨by kernel_rfl, ?_⟩
            have q := hf.cellSome PY.out (fun x => x)
            go_simp
            exact ⟨_, rfl, Fr.refl _ _, rfl, trivial⟩
           case a25_6 =>
            simp only [show u 2 = _ from hR 2 (by kernel_rfl), show u 5 = _ from hR 5 (by kernel_rfl)]
            clear hR k1 k0 kM
            refine .inl ⟨by kernel_rfl, ?_⟩
            have q := neqPN (some ⟨x.g, 0, none⟩) (some ⟨y.g, 0, none⟩) w' (OMX.out.fr0 (FW.out.trans hf)) (OMY.out.fr0 (FW.out.trans hf)) true tpp
            go_simp
            exact ⟨_, rfl, Fr.refl _ _, rfl, trivial⟩
           case' a25_7 => simp only [show u 6 = _ from hR 6 (by kernel_rfl)]
           all_goals
            clear hR k1 k0 kM
            refine .inl ⟨by kernel_rfl, ?_⟩
            go_simp
            exact ⟨_, rfl, Fr.refl _ _, rfl, trivial⟩
          ·intro u w' hf hR kM
           have kz : u 7 = _ := hR 7 (by omega)
           clear hR kM
           simp only [List.take_succ_cons, List.take_zero, List.map_cons, List.map_nil, puts, Act.put, List.setIfInBounds_toArray, List.set_cons_zero, List.set_cons_succ, List.drop_succ_cons, List.drop_zero, Nat.reduceAdd, Nat.zero_add, kz]
           have HF := Lib.hid hf
           clear hf kz
           have KG := Lib.hid (KG.out.behind HF.out)
           have PX : Hid (w'.cell? ad = some (.pointer (some ⟨x.g, 0, none⟩))) := HF.out.cellSome PX.out (fun x => x)
           have MX : Hid (Mid w' x.g x.nm x.v) := MX.out.fr0 HF.out
           have PY : Hid (w'.cell? bd = some (.pointer (some ⟨y.g, 0, none⟩))) := HF.out.cellSome PY.out (fun x => x)
           have MY : Hid (Mid w' y.g y.nm y.v) := MY.out.fr0 HF.out
           clear HF
           generalize w' = wr at *
           go_upto_region 12 with fail
           refine wp_region_st 14 Nothing [Is (.slice (some ad) NA cA), Is (.pointer (some ad)), Is (.pointer (some ⟨x.g, 0, none⟩)), Is (.pointer (some ⟨x.g, 0, none⟩)), Is (.pointer (some ⟨x.g, 2, none⟩)), Is (.agg x.nm.cells.toArray), Is (.slice (some bd) NB cB), Is (.pointer (some bd)), Is (.pointer (some ⟨y.g, 0, none⟩)), Is (.pointer (some ⟨y.g, 0, none⟩)), Is (.pointer (some ⟨y.g, 2, none⟩)), Is (.agg y.nm.cells.toArray), Is (.int .i64 0), Is (.int .i64 0)] [] (fun _ => True) (fun _ _ => false) (by kernel_rfl) (by kernel_rfl) (by kernel_rfl) (by kernel_rfl) ⟨Is.stable _, Is.stable _, Is.stable _, Is.stable _, Is.stable _, Is.stable _, Is.stable _, Is.stable _, Is.stable _, Is.stable _, Is.stable _, Is.stable _, Is.stable _, Is.stable _, trivial⟩ trivial (fun _ _ _ _ h => h) trivial ?_ ?_
           ·refine ⟨?a26_0, ?a26_1, ?a26_2, ?a26_3, ?a26_4, ?a26_5, ?a26_6, ?a26_7, ?a26_8, ?a26_9, ?a26_10, ?a26_11, ?a26_12, ?a26_13, trivial⟩
            all_goals intro u w' d hf hR k1 k0 kM
            all_goals simp only [List.take_succ_cons, List.take_zero, List.map_cons, List.map_nil, puts, Act.put, List.setIfInBounds_toArray, List.set_cons_zero, List.set_cons_succ, Nat.reduceAdd, Nat.zero_add]
            case' a26_1 => simp only [show u 0 = _ from hR 0 (by kernel_rfl)]
            case a26_2 =>
             simp only [show u 1 = _ from hR 1 (by kernel_rfl)]
             clear hR k1 k0 kM
             refine .inl ⟨by kernel_rfl, ?_⟩
             have q := hf.cellSome PX.out (fun x => x)
             go_simp
             exact ⟨_, rfl, Fr.refl _ _, rfl, trivial⟩
            case' a26_3 => simp only [show u 2 = _ from hR 2 (by kernel_rfl)]
            case' a26_4 => simp only [show u 3 = _ from hR 3 (by kernel_rfl)]
            case a26_5 =>
             simp only [show u 4 = _ from hR 4 (by kernel_rfl)]
             clear hR k1 k0 kM
             refine .inl ⟨by kernel_rfl, ?_⟩
             exact wp_load_add _ _ rfl ⟨x.g, 2, none⟩ rfl x.nm.cells _ (fun jj v hv => by rw [Addr.add_mid]; exact (MX.out.fr0 hf).name jj v hv) Tryz.underlying44 rfl infoName ⟨_, rfl, Fr.refl _ _, rfl, trivial⟩
            case' a26_7 => simp only [show u 6 = _ from hR 6 (by kernel_rfl)]
            case a26_8 =>
             simp only [show u 7 = _ from hR 7 (by kernel_rfl)]
             clear hR k1 k0 kM
             refine .inl ⟨by kernel_rfl, ?_⟩
             have q := hf.cellSome PY.out (fun x => x)
             go_simp
             exact ⟨_, rfl, Fr.refl _ _, rfl, trivial⟩
            case' a26_9 => simp only [show u 8 = _ from hR 8 (by kernel_rfl)]
            case' a26_10 => simp only [show u 9 = _ from hR 9 (by kernel_rfl)]
            case a26_11 =>
             simp only [show u 10 = _ from hR 10 (by kernel_rfl)]
             clear hR k1 k0 kM
             refine .inl ⟨by kernel_rfl, ?_⟩
             exact wp_load_add _ _ rfl ⟨y.g, 2, none⟩ rfl y.nm.cells _ (fun jj v hv => by rw [Addr.add_mid]; exact (MY.out.fr0 hf).name jj v hv) Tryz.underlying44 rfl infoName ⟨_, rfl, Fr.refl _ _, rfl, trivial⟩
            case a26_12 =>
             simp only [show u 5 = _ from hR 5 (by kernel_rfl), show u 11 = _ from hR 11 (by kernel_rfl)]
             clear hR k1 k0 kM
             refine .inl ⟨by kernel_rfl, ?_⟩
             go_simp
             refine (CQ.out _).mono ?_
             rintro e w4 ⟨rfl, f4⟩
             exact ⟨_, rfl, f4.weak, rfl, trivial⟩
            case' a26_13 => simp only [show u 12 = _ from hR 12 (by kernel_rfl)]
            all_goals
             clear hR k1 k0 kM
             refine .inl ⟨by kernel_rfl, ?_⟩
             go_simp
             exact ⟨_, rfl, Fr.refl _ _, rfl, trivial⟩
           ·intro u w' hf hR kM
            have kz : u 13 = _ := hR 13 (by omega)
            clear hR kM
            simp only [List.take_succ_cons, List.take_zero, List.map_cons, List.map_nil, puts, Act.put, List.setIfInBounds_toArray, List.set_cons_zero, List.set_cons_succ, List.drop_succ_cons, List.drop_zero, Nat.reduceAdd, Nat.zero_add, kz]
            have HF := Lib.hid hf
            clear hf kz
            have KG := Lib.hid (KG.out.behind HF.out)
            have PX : Hid (w'.cell? ad = some (.pointer (some ⟨x.g, 0, none⟩))) := HF.out.cellSome PX.out (fun x => x)
            have MX : Hid (Mid w' x.g x.nm x.v) := MX.out.fr0 HF.out
            have PY : Hid (w'.cell? bd = some (.pointer (some ⟨y.g, 0, none⟩))) := HF.out.cellSome PY.out (fun x => x)
            have MY : Hid (Mid w' y.g y.nm y.v) := MY.out.fr0 HF.out
            clear HF
            generalize w' = wr at *
            go_upto_region 15 with fail
            refine wp_region_st 18 Nothing [Is (.int .i64 0), Is (.bool false), Is (.bool false), Is (.slice (some ad) NA cA), Is (.pointer (some ad)), Is (.pointer (some ⟨x.g, 0, none⟩)), Is (.pointer (some ⟨x.g, 0, none⟩)), Is (.pointer (some ⟨x.g, 7, none⟩)), Is (.string x.v), Is (.slice (some bd) NB cB), Is (.pointer (some bd)), Is (.pointer (some ⟨y.g, 0, none⟩)), Is (.pointer (some ⟨y.g, 0, none⟩)), Is (.pointer (some ⟨y.g, 7, none⟩)), Is (.string y.v), Is (.bool false), Is (.bool false), Is (.bool false)] [] (fun _ => True) (fun _ _ => false) (by kernel_rfl) (by kernel_rfl) (by kernel_rfl) (by kernel_rfl) ⟨Is.stable _, Is.stable _, Is.stable _, Is.stable _, Is.stable _, Is.stable _, Is.stable _, Is.stable _, Is.stable _, Is.stable _, Is.stable _, Is.stable _, Is.stable _, Is.stable _, Is.stable _, Is.stable _, Is.stable _, Is.stable _, trivial⟩ trivial (fun _ _ _ _ h => h) trivial ?_ ?_
            ·refine ⟨?a27_0, ?a27_1, ?a27_2, ?a27_3, ?a27_4, ?a27_5, ?a27_6, ?a27_7, ?a27_8, ?a27_9, ?a27_10, ?a27_11, ?a27_12, ?a27_13, ?a27_14, ?a27_15, ?a27_16, ?a27_17, trivial⟩
             all_goals intro u w' d hf hR k1 k0 kM
             all_goals simp only [List.take_succ_cons, List.take_zero, List.map_cons, List.map_nil, puts, Act.put, List.setIfInBounds_toArray, List.set_cons_zero, List.set_cons_succ, Nat.reduceAdd, Nat.zero_add]
             case' a27_1 => simp only [show u 0 = _ from hR 0 (by kernel_rfl)]
             case' a27_2 => simp only [show u 1 = _ from hR 1 (by kernel_rfl)]
             case' a27_3 => simp only [show u 2 = _ from hR 2 (by kernel_rfl)]
             case' a27_4 => simp only [show u 3 = _ from hR 3 (by kernel_rfl), show u 2 = _ from hR 2 (by kernel_rfl)]
             case a27_5 =>
              simp only [show u 4 = _ from hR 4 (by kernel_rfl), show u 2 = _ from hR 2 (by kernel_rfl)]
              clear hR k1 k0 kM
              refine .inl ⟨by kernel_rfl, ?_⟩
              have q := hf.cellSome PX.out (fun x => x)
              go_simp
              exact ⟨_, rfl, Fr.refl _ _, rfl, trivial⟩
             case' a27_6 => simp only [show u 5 = _ from hR 5 (by kernel_rfl), show u 2 = _ from hR 2 (by kernel_rfl)]
             case' a27_7 => simp only [show u 6 = _ from hR 6 (by kernel_rfl), show u 2 = _ from hR 2 (by kernel_rfl)]
             case a27_8 =>
              simp only [show u 7 = _ from hR 7 (by kernel_rfl), show u 2 = _ from hR 2 (by kernel_rfl)]
              clear hR k1 k0 kM
              refine .inl ⟨by kernel_rfl, ?_⟩
              have q := (MX.out.fr0 hf).val
              go_simp
              exact ⟨_, rfl, Fr.refl _ _, rfl, trivial⟩
             case' a27_9 => simp only [show u 2 = _ from hR 2 (by kernel_rfl)]
             case' a27_10 => simp only [show u 9 = _ from hR 9 (by kernel_rfl), show u 2 = _ from hR 2 (by kernel_rfl)]
             case a27_11 =>
              simp only [show u 10 = _ from hR 10 (by kernel_rfl), show u 2 = _ from hR 2 (by kernel_rfl)]
              clear hR k1 k0 kM
              refine .inl ⟨by kernel_rfl, ?_⟩
              have q := hf.cellSome PY.out (fun x => x)
              go_simp
              exact ⟨_, rfl, Fr.refl _ _, rfl, trivial⟩
             case' a27_12 => simp only [show u 11 = _ from hR 11 (by kernel_rfl), show u 2 = _ from hR 2 (by kernel_rfl)]
             case' a27_13 => simp only [show u 12 = _ from hR 12 (by kernel_rfl), show u 2 = _ from hR 2 (by kernel_rfl)]
             case a27_14 =>
              simp only [show u 13 = _ from hR 13 (by kernel_rfl), show u 2 = _ from hR 2 (by kernel_rfl)]
              clear hR k1 k0 kM
              refine .inl ⟨by kernel_rfl, ?_⟩
              have q := (MY.out.fr0 hf).val
              go_simp
              exact ⟨_, rfl, Fr.refl _ _, rfl, trivial⟩
             case' a27_15 => simp only [show u 8 = _ from hR 8 (by kernel_rfl), show u 14 = _ from hR 14 (by kernel_rfl), show u 2 = _ from hR 2 (by kernel_rfl)]
             case' a27_16 => simp only [show u 2 = _ from hR 2 (by kernel_rfl), show u 15 = _ from hR 15 (by kernel_rfl)]
             case' a27_17 => simp only [show u 16 = _ from hR 16 (by kernel_rfl)]
             all_goals
              clear hR k1 k0 kM
              refine .inl ⟨by kernel_rfl, ?_⟩
              go_simp
              exact ⟨_, rfl, Fr.refl _ _, rfl, trivial⟩
            ·intro u w' hf hR kM
             have kz : u 17 = _ := hR 17 (by omega)
             clear hR kM
             simp only [List.take_succ_cons, List.take_zero, List.map_cons, List.map_nil, puts, Act.put, List.setIfInBounds_toArray, List.set_cons_zero, List.set_cons_succ, List.drop_succ_cons, List.drop_zero, Nat.reduceAdd, Nat.zero_add, kz]
             have HF := Lib.hid hf
             clear hf kz
             have KG := Lib.hid (KG.out.behind HF.out)
             have PX : Hid (w'.cell? ad = some (.pointer (some ⟨x.g, 0, none⟩))) := HF.out.cellSome PX.out (fun x => x)
             have MX : Hid (Mid w' x.g x.nm x.v) := MX.out.fr0 HF.out
             have PY : Hid (w'.cell? bd = some (.pointer (some ⟨y.g, 0, none⟩))) := HF.out.cellSome PY.out (fun x => x)
             have MY : Hid (Mid w' y.g y.nm y.v) := MY.out.fr0 HF.out
             clear HF
             generalize w' = wr at *
             go_wp2
             go_roundw
             case rel => exact ⟨_, _, _, _, _, _, _, _, done, rfl, rfl, QA.out.tail, QB.out.tail, by rw [← HD.out, HST.out], KG.out⟩
             case measure => simp only [lenOfV]; omega
end Go.Proofs.YtpnchdgplpdefaaGreatDoor
