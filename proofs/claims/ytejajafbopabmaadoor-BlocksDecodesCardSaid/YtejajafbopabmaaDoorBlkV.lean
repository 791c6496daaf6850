/- blocks.Map's Encode. -/
import Derived.Test.YtejajafbopabmaaDoorBlkU
import Derived.Test.YtejajafbopabmaaDoorCodecC
import Derived.Laws.BitsAllLaws
import Derived.Shelf.RegionOpen
import Derived.Test.YtejajafbopabmaaDoorRound
namespace Go.Proofs.YtejajafbopabmaaDoor
open Go.RowKit Go.Shelf

attribute [local go_sem] Oper.semAt_some

theorem wpListIn_make_full {F : Fence} {n : Nat} {P : Program} (w : World) {ops : Array Oper} {rest : List Oper} {o : Oper} {a : Act} {Q : Exit → Act → World → Prop}
    (hg : o.guard = none) (l c : Operand) (t : TypeId) (hop : o.op = Op.makeSlice t l c)
    (base : Nat) (e : TypeId) (i : TypeInfo) (z : Value) (size : Nat) (h1 : P.underlying t = some (.slice e)) (h2 : P.info? e = some i) (h3 : i.zero = some z) (h4 : i.size = size)
    (kl kc : IntKind) (L C : Int) (m : Nat) (hl : a.eval l = .int kl L) (hc : a.eval c = .int kc C) (hL : L = (m : Int)) (hC : C = (m : Int)) (b2 : i.bytes * m ≤ 281474976710656) (b3 : m ≤ maxLen) (b4 : base ≤ w.heap.size)
    (hK : ∀ w', w'.ownsRow base e size (.slice (some ⟨w.heap.size, 0, none⟩) m m) m (madeCells z.cells (m * size)).toList → w.grownBy w' none → wpListIn F n P ops Q rest (a.put o.dst (.slice (some ⟨w.heap.size, 0, none⟩) m m)) w') :
    wpListIn F n P ops Q (o :: rest) a w := by
  refine wpListIn_plain hg fun K hK' => ?_
  obtain ⟨w', hrun, r1, r2⟩ := run_make_full (P := P) w base t e i z size h1 h2 h3 h4 kl kc m b2 b3 b4
  subst hL
  subst hC
  unfold Oper.wpIn
  refine ⟨?_, ?_⟩
  · simp [Oper.about, hop]
  · rw [Oper.semAt_plain F _ _ (by rw [hop]; intro c hc'; cases hc')]
    simp [execOp, hop, hl, hc, hrun, Result.andThen]
    exact hK' _ _ (hK w' r1 r2)

/-- A bit set. -/
def orB (L : List UInt8) (i : Nat) : List UInt8 := L.set (i / 8) (b8 (byteAt L (i / 8) ||| 2 ^ (i % 8)))
def bitsOf (q : Nat) {n : Nat} (pre : List (Fin n)) : List UInt8 := pre.foldl (fun L i => orB L i.1) (List.replicate q 0)
theorem bitsOf_snoc (q : Nat) {n : Nat} (pre : List (Fin n)) (i : Fin n) : bitsOf q (pre ++ [i]) = orB (bitsOf q pre) i.1 := by simp [bitsOf]
theorem orB_length (L : List UInt8) (i : Nat) : (orB L i).length = L.length := by simp [orB]
theorem bitsOf_length (q : Nat) {n : Nat} (pre : List (Fin n)) : (bitsOf q pre).length = q := by
  unfold bitsOf
  generalize hL : List.replicate q (0 : UInt8) = L
  have e : L.length = q := by rw [← hL]; simp
  clear hL
  induction pre generalizing L with
  | nil => exact e
  | cons i pre ih => exact ih _ ((orB_length _ _).trans e)
theorem byteAt_256 (L : List UInt8) (k : Nat) : byteAt L k < 256 := (L[k]?.getD 0).toNat_lt
theorem pow8 (i : Nat) : 2 ^ (i % 8) < 256 := by
  have h : i % 8 < 8 := Nat.mod_lt _ (by omega)
  calc 2 ^ (i % 8) < 2 ^ 8 := Nat.pow_lt_pow_right (by omega) h
    _ = 256 := by decide
theorem or_256 (L : List UInt8) (i : Nat) : byteAt L (i / 8) ||| 2 ^ (i % 8) < 256 := Nat.or_lt_two_pow (n := 8) (byteAt_256 L _) (pow8 i)

/-- Between two rounds: block B1 holds the bits; all else that was there in w0 lies as it lay. -/
structure EncI (w0 : World) (B1 q : Nat) (L : List UInt8) (W : World) : Prop where
  fr : Fr (One B1) w0 W
  own : W.ownsRow 0 5 1 (.slice (some ⟨B1, 0, none⟩) q q) q (L.map bv)

theorem EncI.ownFrom {w0 : World} {B1 q n : Nat} (hB : B1 < w0.heap.size) : OwnFrom w0.heap.size (fun (pre : List (Fin n)) W => EncI w0 B1 q (bitsOf q pre) W) := by
  intro pre A B row h hg hr
  have hrow : ∀ k, k < w0.heap.size → some k ≠ row := fun k hk e => by have := (hr k e.symm).1; omega
  have hf : Fr (fun k => some k = row) A B := Fr.grown hg
  refine ⟨h.fr.then_ hf (fun i hi e => absurd e (hrow i hi)), own_fr h.own hf (fun k hk e => ?_)⟩
  simp [Value.ownBlock] at hk
  subst hk
  exact hrow _ hB e

theorem EncI.set {w0 W : World} {B1 q : Nat} {L : List UInt8} (h : EncI w0 B1 q L W) (i : Nat) : EncI w0 B1 q (orB L i) (W.setCell ⟨B1, i / 8, none⟩ (.int .u8 (byteAt L (i / 8) ||| 2 ^ (i % 8) : Nat))) := by
  refine ⟨h.fr.trans fr_set, ?_⟩
  have := (h.own.stored (i / 8) (bv (b8 (byteAt L (i / 8) ||| 2 ^ (i % 8))))).1
  rw [bv_ofNat _ (or_256 L i)] at this
  unfold orB
  rw [List.map_set, bv_ofNat _ (or_256 L i)]
  exact this
theorem EncI.at_ {w0 W : World} {B1 q : Nat} {L : List UInt8} (h : EncI w0 B1 q L W) {k : Nat} (hk : k < q) : W.cell? ⟨B1, k, none⟩ = some (.int .u8 (byteAt L k : Nat)) := by
  rw [h.own.cellAt k (by omega), List.getElem?_map]
  have hl : L.length = q := by simpa using h.own.1
  have : k < L.length := by omega
  simp [byteAt, bv, this]

theorem own_lt {w : World} {base : Nat} {e : TypeId} {size n m cap g : Nat} {xs : List Value} (h : w.ownsRow base e size (.slice (some ⟨g, 0, none⟩) n cap) m xs) : g < w.heap.size := by
  rcases h.2 with ⟨e, _⟩ | ⟨g', cap', cur, e, _, hh, _⟩
  · cases e
  · have e2 : g' = g := by
      have e3 := congrArg Value.ownBlock e
      simpa [Value.ownBlock] using e3.symm
    subst e2
    exact (Array.getElem?_eq_some_iff.1 hh).1

def encB (f n : Nat) (B : List UInt8) : List UInt8 := enc f ++ enc n ++ (enc B.length ++ B)

set_option maxRecDepth 100000 in
set_option maxHeartbeats 4000000 in
theorem Encode_any (g b c f n : Nat) (l : List UInt8) (w : World) (h : BM w g b c f n l) :
    Calls Tryd.prog 31 #[.pointer (some ⟨g, 0, none⟩)] w (Gives w (.string ⟨(encB f n (bitsOf ((n + 7) / 8) (pickF l 1 2 n n))).toArray⟩)) := by
  obtain ⟨i0, hi, hz0, hz1, hz2⟩ := info_parts info_u8
  have hn := h.hn
  have hf := h.hf
  have HM := Lib.hid h
  have HGB : Hid (g < w.heap.size ∧ b < w.heap.size) := ⟨h.blk.lt, own_lt h.own⟩
  have HX := Lib.hid (Blk.new w 25 #[.pointer (some ⟨g, 0, none⟩)])
  have hM1 := h.fr0 ((Fr.refl _ w).alloc (.cells #[.pointer (some ⟨g, 0, none⟩)] 25))
  have c1 := hM1.c1
  clear h hM1
  refine (callsIn_wide (n := 6)).1 ?_
  refine callsIn_of_wp_marks Tryd.func31 rfl trivial ?_ rfl
  simp only [Tryd.ntmps31, List.size_toArray, List.length_cons, List.length_nil, Nat.reduceAdd, Nat.reduceSub, Array.replicate_succ, Array.replicate_zero, List.push_toArray, List.append_toArray, List.nil_append, List.cons_append]
  gi_wp2_with (gi_at_make; refine wpListIn_make_full _ rfl _ _ 72 rfl 0 5 i0 (.int .u8 0) 1 Tryd.underlying72 hi hz0 hz1 _ _ _ _ ((n + 7) / 8) rfl rfl ?c0 ?c0' ?c1 ?c2 (Nat.zero_le _) ?_)
  case c0 => omega
  case c0' => omega
  case c1 => rw [hz2]; omega
  case c2 => unfold maxLen; omega
  intro w1 hown hgr
  have hFr1 : Fr Nothing (w.alloc (.cells #[.pointer (some ⟨g, 0, none⟩)] 25)) w1 := (Fr.grown hgr).mono (fun k _ hk => by cases hk)
  have hM1 := (HM.out.fr0 ((Fr.refl _ w).alloc (.cells #[.pointer (some ⟨g, 0, none⟩)] 25))).fr0 hFr1
  have hX1 := HX.out.fr hFr1 (fun x => x)
  have hO1 : w1.ownsRow 0 5 1 (.slice (some ⟨w.heap.size + 1, 0, none⟩) ((n + 7) / 8) ((n + 7) / 8)) ((n + 7) / 8) ((List.replicate ((n + 7) / 8) (0 : UInt8)).map bv) := by
    rw [toList_madeCells_one] at hown
    simpa [bv] using hown
  have hF1 : Fr Nothing w w1 := ((Fr.refl _ _).alloc _).trans hFr1
  -- the box of bits
  have hM2 := hM1.fr0 ((Fr.refl _ w1).alloc (.cells #[.slice (some ⟨w.heap.size + 1, 0, none⟩) ((n + 7) / 8) ((n + 7) / 8)] 72))
  have hX2 := hX1.alloc (.cells #[.slice (some ⟨w.heap.size + 1, 0, none⟩) ((n + 7) / 8) ((n + 7) / 8)] 72)
  have hY2 := Blk.new w1 72 #[.slice (some ⟨w.heap.size + 1, 0, none⟩) ((n + 7) / 8) ((n + 7) / 8)]
  have hO2 := hO1.alloc (.cells #[.slice (some ⟨w.heap.size + 1, 0, none⟩) ((n + 7) / 8) ((n + 7) / 8)] 72)
  have hF2 := hF1.alloc (.cells #[.slice (some ⟨w.heap.size + 1, 0, none⟩) ((n + 7) / 8) ((n + 7) / 8)] 72)
  have d1 := hX2.cell 0
  simp only [List.getElem?_toArray, List.getElem?_cons_zero] at d1
  have HM2 := Lib.hid hM2
  have HX2 := Lib.hid hX2
  have HY2 := Lib.hid hY2
  have HO2 := Lib.hid hO2
  have HF2 := Lib.hid hF2
  have HQ : Hid (w.heap.size + 1 < w1.heap.size) := own_lt hO1
  have hs2 : (w1.alloc (.cells #[.slice (some ⟨w.heap.size + 1, 0, none⟩) ((n + 7) / 8) ((n + 7) / 8)] 72)).heap.size = w1.heap.size + 1 := by simp
  have HS2 := Lib.hid hs2
  clear hown hgr hFr1 hM1 hX1 hO1 hF1 hM2 hX2 hY2 hO2 hF2 HX c1 hs2
  gi_wp2_with fail
  refine ⟨trivial, (callsIn_wide.2 (in_any (some ⟨g, 0, none⟩) 1 2 _)).mono ?_⟩
  rintro e w2 ⟨rfl, hw2⟩
  generalize (w1.alloc (.cells #[.slice (some ⟨w.heap.size + 1, 0, none⟩) ((n + 7) / 8) ((n + 7) / 8)] 72)) = W1 at *
  have hit := it_new HM2.out 1 2
  have hfr3 : Fr Nothing W1 (((W1.alloc (.cells #[.pointer (some ⟨g, 0, none⟩)] 25)).alloc (.cells #[.int .u8 ((1 : UInt8).toNat : Nat)] 5)).alloc (.cells #[.int .u8 ((2 : UInt8).toNat : Nat)] 5)) := (((Fr.refl _ _).alloc _).alloc _).alloc _
  have hsz3 : (((W1.alloc (.cells #[.pointer (some ⟨g, 0, none⟩)] 25)).alloc (.cells #[.int .u8 ((1 : UInt8).toNat : Nat)] 5)).alloc (.cells #[.int .u8 ((2 : UInt8).toNat : Nat)] 5)).heap.size = W1.heap.size + 3 := by simp
  rw [← hw2] at hit hfr3 hsz3
  clear hw2
  have HI3 := Lib.hid hit
  have HF3 := Lib.hid hfr3
  have HS3 := Lib.hid hsz3
  have e1 := hit.m.c0
  clear hit hfr3 hsz3
  gi_wp2_with fail
  refine wpIn_rangeFunc_ownG rfl (by omega) (gf := 67) (lb := caps W1.heap.size (W1.heap.size + 1) (W1.heap.size + 2)) rfl trivial (enters_of Tryd.func67 (by kernel_rfl) rfl)
    (in_stops 5 (by omega) _ _ _ g b c f n l 1 2 w2 HI3.out) Keep.trans (Keep.put HI3.out.lt) (Below.refl _ _) (fun _ => rfl)
    (fun pre W => EncI w2 (w.heap.size + 1) ((n + 7) / 8) (bitsOf ((n + 7) / 8) pre) W) (fun _ _ _ => False)
    (EncI.ownFrom (by have h1 := HQ.out; have h2 := HS2.out; have h3 := HS3.out; omega)) (fun _ _ _ _ _ hs _ _ => hs)
    ⟨Fr.refl _ _, own_fr HO2.out HF3.out (fun _ _ x => x)⟩ ?a1 ?assign ?body ?done ?stop
  case assign =>
    intro l x W K hK
    gi_wp2
    exact hK
  case body =>
    rintro l' pre ⟨i, hin⟩ W hE hlt
    have HE := Lib.hid hE
    have hE1 : Fr (One (w.heap.size + 1)) W1 W := (HF3.out.weak).trans hE.fr
    have hne : g ≠ w.heap.size + 1 ∧ b ≠ w.heap.size + 1 := by have h1 := HGB.out; omega
    have k1 := (HM2.out.fr hE1 hne.1 hne.2).c0
    have k2 := (HX2.out.fr hE1 (show ¬ w.heap.size = w.heap.size + 1 by omega)).cell 0
    have k3 := (HY2.out.fr hE1 (show ¬ w1.heap.size = w.heap.size + 1 by have := HQ.out; omega)).cell 0
    simp only [List.getElem?_toArray, List.getElem?_cons_zero] at k2 k3
    have hi8 : i / 8 < (n + 7) / 8 := by omega
    have k4 := hE.at_ hi8
    have k5 := hE.own.frozenAt (i / 8)
    have hsub : (f : Int) + (i : Int) - (f : Int) = (i : Int) := by omega
    have hmix : Tryd.prog.follows .mixedOrders = true := by kernel_rfl
    have HJ : Hid (i / 8 = i / 8 ∧ i % 8 = i % 8 ∧ i % 8 < 8) := ⟨rfl, rfl, Nat.mod_lt _ (by omega)⟩
    have v1 : (i : Int).tdiv 8 = ((i / 8 : Nat) : Int) := by rw [Int.tdiv_eq_ediv_of_nonneg (by omega)]; omega
    have v2 : (i : Int).tmod 8 = ((i % 8 : Nat) : Int) := by rw [Int.tmod_eq_emod_of_nonneg (by omega)]; omega
    have u1 : (i : Int) / 8 = ((i / 8 : Nat) : Int) := by omega
    have u2 : (i : Int) % 8 = ((i % 8 : Nat) : Int) := by omega
    have v3 : IntKind.i64.wrap ((i / 8 : Nat) : Int) = ((i / 8 : Nat) : Int) := IntWalk.i64_in _ (by omega)
    have v4 : IntKind.i64.wrap ((i % 8 : Nat) : Int) = ((i % 8 : Nat) : Int) := IntWalk.i64_in _ (by omega)
    have v5 : ((i / 8 : Nat) : Int) < (((n + 7) / 8 : Nat) : Int) := by omega
    have v6 : (0 : Int) ≤ ((i % 8 : Nat) : Int) := by omega
    have v7 : ((i % 8 : Nat) : Int) < 8 := by omega
    generalize hj : i / 8 = j at *
    generalize hr : i % 8 = r at *
    generalize (n + 7) / 8 = q at *
    have HJ2 := Lib.hid hj
    have HR2 := Lib.hid hr
    clear hj hr
    have hp : 2 ^ r < 256 := by rw [← HR2.out]; exact pow8 i
    have hb := byteAt_256 (bitsOf q pre) j
    obtain ⟨p, hpe⟩ : ∃ p : Nat, p = 2 ^ r := ⟨_, rfl⟩
    rw [← hpe] at hp
    have v8 : IntKind.u8.wrap ((2 : Int) ^ r) = (p : Int) := by
      have e : (2 : Int) ^ r = (p : Int) := by rw [hpe]; simp
      rw [e]
      exact IntWalk.u8_in _ (by omega)
    have v9 := u8_or_nat (byteAt (bitsOf q pre) j) p hb hp
    obtain ⟨t, ht⟩ : ∃ t : Nat, t = byteAt (bitsOf q pre) j ||| p := ⟨_, rfl⟩
    rw [← ht] at v9
    have hne2 : ∀ k, ItS W1.heap.size (W1.heap.size + 1) (W1.heap.size + 2) g b k → k ≠ w.heap.size + 1 := by
      have h1 := HGB.out
      have h2 := HQ.out
      have h3 := HS2.out
      rintro k (rfl | rfl | rfl | rfl | rfl) <;> omega
    have KEY : Hid (KeepsFrom w2.heap.size W (W.setCell ⟨w.heap.size + 1, j, none⟩ (.int .u8 (t : Int))).drew ∧ Keep (ItS W1.heap.size (W1.heap.size + 1) (W1.heap.size + 2) g b) W (W.setCell ⟨w.heap.size + 1, j, none⟩ (.int .u8 (t : Int))).drew ∧ EncI w2 (w.heap.size + 1) q (bitsOf q (pre ++ [⟨i, hin⟩])) (W.setCell ⟨w.heap.size + 1, j, none⟩ (.int .u8 (t : Int))).drew) := by
      refine ⟨((KeepsOthers.setCell _ _ _).trans (KeepsOthers.drew _)).from _, fun k hk => Below.heap_setCell _ _ _ _ (hne2 k hk), ?_⟩
      have h4 := HE.out.set i
      rw [HJ2.out, HR2.out, ← hpe, ← ht] at h4
      rw [bitsOf_snoc]
      exact ⟨h4.fr.drew, h4.own⟩
    clear hE hE1 hne hpe ht hne2
    gi_wp2
    clear HM HGB HM2 HX2 HY2 HO2 HF2 HQ HS2 HI3 HF3 HS3 HE HJ2 HR2 HJ k1 k2 e1 d1 hi hz0 hz1 hz2 hsub hlt hi8
    have k3' : W.drew.cell? ⟨w1.heap.size, 0, none⟩ = _ := k3
    have k4' : W.drew.cell? ⟨w.heap.size + 1, j, none⟩ = _ := k4
    have k5' : W.drew.frozen? ⟨w.heap.size + 1, j, none⟩ = _ := k5
    refine wpIn_region_still_tail 10 hmix (by kernel_rfl) (by kernel_rfl) ?_
    simp only [List.take_succ_cons, List.take_zero, List.drop_succ_cons, List.drop_zero]
    repeat still_step
    refine wpStill_nil ?_
    go_wp2
    exact KEY.out
  case done =>
    rintro D zs W hD rfl hE hK
    have hE1 : Fr (One (w.heap.size + 1)) W1 W := (HF3.out.weak).trans hE.fr
    have hne : g ≠ w.heap.size + 1 ∧ b ≠ w.heap.size + 1 := by have h1 := HGB.out; omega
    have hMW := HM2.out.fr hE1 hne.1 hne.2
    have hXW := HX2.out.fr hE1 (show ¬ w.heap.size = w.heap.size + 1 by omega)
    have hYW := HY2.out.fr hE1 (show ¬ w1.heap.size = w.heap.size + 1 by have := HQ.out; omega)
    have hFW : Fr Nothing w W := HF2.out.then_ hE1 (fun i hi e => by have e' : i = w.heap.size + 1 := e; omega)
    have hOW := Rd.of_own hE.own
    have HMW := Lib.hid hMW
    have HXW := Lib.hid hXW
    have HYW := Lib.hid hYW
    have HFW := Lib.hid hFW
    have HOW := Lib.hid hOW
    have HK := Lib.hid hK
    have HWD : Hid (w.heap.size ≤ D) := Nat.le_trans HF2.out.size (Nat.le_trans HF3.out.size hD)
    have HDL : Hid (D < W.heap.size) := (Array.getElem?_eq_some_iff.1 hK).1
    have HLB := Lib.hid (bitsOf_length ((n + 7) / 8) (pickF l 1 2 n n))
    clear hE hE1 hne hMW hXW hYW hFW hOW hK hD HM HGB HM2 HX2 HY2 HO2 HF2 HI3 HF3 HS3 HS2 HQ e1 d1 hi hz0 hz1 hz2
    generalize bitsOf ((n + 7) / 8) (pickF l 1 2 n n) = Bs at *
    gi_wp2_with fail
    refine ⟨trivial, (callsIn_wide.2 (NewWriter_any _)).mono ?_⟩
    rintro e w3 ⟨rfl, hwr, hf3⟩
    have HW3 := Lib.hid (WrStep.start hwr)
    have HR3 := Lib.hid hwr
    have HF3 := Lib.hid hf3
    have m1 := (HXW.out.fr hf3 (fun x => x)).cell 0
    have m2 := (HMW.out.fr0 hf3).c0
    simp only [List.getElem?_toArray, List.getElem?_cons_zero] at m1
    clear hwr hf3
    gi_wp2_with fail
    refine ⟨trivial, (callsIn_wide.2 (wNumber_any _ _ _ _ (f : Int) _ HR3.out (by simp) (by omega))).mono ?_⟩
    rintro e w4 ⟨rfl, v4, hs4⟩
    rw [wNumber_pos] at hs4
    have hF4 : Fr Nothing W w4 := HF3.out.then_ hs4.fr (fun i hi hr => by rcases hr with hr | hr; omega; simp [Value.ownBlock] at hr)
    have HS4 := Lib.hid hs4
    have HF4 := Lib.hid hF4
    have m3 := (HXW.out.fr hF4 (fun x => x)).cell 0
    have m4 := (HMW.out.fr0 hF4).c1
    simp only [List.getElem?_toArray, List.getElem?_cons_zero] at m3
    have el := enc_length f
    have el2 := enc_length n
    clear hs4 hF4 m1 m2
    gi_wp2_with fail
    refine ⟨trivial, (callsIn_wide.2 (wNumber_any _ _ _ _ (n : Int) _ HS4.out.wr (by simp only [List.nil_append]; omega) (by omega))).mono ?_⟩
    rintro e w5 ⟨rfl, v5, hs5⟩
    rw [wNumber_pos] at hs5
    have hs5' := HS4.out.trans hs5
    have hF5 : Fr Nothing W w5 := HF3.out.then_ hs5'.fr (fun i hi hr => by rcases hr with hr | hr; omega; simp [Value.ownBlock] at hr)
    have HS5 := Lib.hid hs5'
    have HF5 := Lib.hid hF5
    have m5 := (HYW.out.fr hF5 (fun x => x)).cell 0
    simp only [List.getElem?_toArray, List.getElem?_cons_zero] at m5
    have hcv := run_strT w5 _ _ _ ((n + 7) / 8) Bs (HOW.out.fr0 hF5)
    clear hs5 hs5' hF5 m3 m4
    have hbl := HLB.out
    gi_wp2_with fail
    refine ⟨trivial, (callsIn_wide.2 (wText_any _ _ _ _ ⟨Bs.toArray⟩ _ HS5.out.wr (by simp only [List.nil_append, List.length_append]; omega) (by simp [ByteArray.size]; omega))).mono ?_⟩
    rintro e w6 ⟨rfl, v6, hs6⟩
    rw [wText_small _ _ (by simp [ByteArray.size]; omega)] at hs6
    have hs6' := HS5.out.trans hs6
    have hF6 : Fr Nothing W w6 := HF3.out.then_ hs6'.fr (fun i hi hr => by rcases hr with hr | hr; omega; simp [Value.ownBlock] at hr)
    have HS6 := Lib.hid hs6'
    have HF6 := Lib.hid hF6
    have hEB : [] ++ enc f ++ enc n ++ (enc (⟨Bs.toArray⟩ : ByteArray).size ++ strL ⟨Bs.toArray⟩) = encB f n Bs := by
      simp [encB, strL, ByteArray.size]
    have HEB := Lib.hid hEB
    have el3 := enc_length Bs.length
    clear hs6 hs6' hF6 hEB m5 hcv
    gi_wp2_with fail
    refine ⟨trivial, (callsIn_wide.2 (wBytes_any _ _ _ _ _ HS6.out.wr (by rw [HEB.out]; simp only [encB, List.length_append]; omega))).mono ?_⟩
    rintro e w7 ⟨_, hx⟩
    obtain ⟨v7, rfl, hg7⟩ := hx rfl
    rw [HEB.out] at hg7
    obtain ⟨A7, n7, c7, rfl, H7, _⟩ := own_slice hg7.own
    have hcv := run_strT w7 _ _ _ c7 _ (OwnB.rd hg7.own H7.out)
    have hF7 := HF6.out.trans hg7.fr0
    have HF7 := Lib.hid hF7
    have HK7 : Hid (w7.heap[D]? = some (.deferred (some []))) := (hF7.block D HDL.out (fun x => x)).trans HK.out
    clear hg7 hF7 hbl el el2 el3
    gi_wp2
    refine ⟨by simp, .inl ⟨_, _, rfl, run_takeDeferred HK7.out, ?_⟩⟩
    exact ⟨_, results_tmp rfl _ _ _, rfl, (HFW.out.trans HF7.out).then_ (Fr.grown (grownBy_putObj' _ D _)) (fun i hi e => by have e' : i = D := by simpa using e
                                                                                                                             have := HWD.out
                                                                                                                             omega)⟩
  case stop =>
    rintro D c pre W _ _ h _
    exact h.elim

set_option maxHeartbeats 1000000 in
theorem Encode_nil (w : World) : Calls Tryd.prog 31 #[.pointer none] w (Gives w (.string ⟨#[]⟩)) := by
  go_enter Tryd.func31, Tryd.ntmps31
  go_wp2
  go_ret
  exact ⟨rfl, (Fr.refl _ _).alloc _⟩
end Go.Proofs.YtejajafbopabmaaDoor
