/- State: state.Decode (written by genScl.py). -/
import Derived.Test.YtpnchdgplpdefaaGreatDoorEnScj
import Derived.Test.YtpnchdgplpdefaaGreatDoorEnIs
namespace Go.Proofs.YtpnchdgplpdefaaGreatDoor
open Go.RowKit Go.Shelf
theorem NodH.frT {w w' : World} {T : Nat → Prop} {g : Nat} {ty : TypeId} {cs : Array Value} (hb : Blk w g ty cs) (h1 : ty ≠ 69) (hf : Fr T w w') (hT : ∀ k, T k → k = g) : ∀ {a : Option Addr} {t : Tr}, NodH w a t → NodH w' a t
 | _, .leaf, h => h
 | _, .node _ _ _ _, ⟨k, la, ra, e, h2, h3, hk⟩ => ⟨k, la, ra, e, h2.frT hb h1 hf hT, h3.frT hb h1 hf hT, hk.fr hf (fun x => blk_apart hb hk h1 (hT k x).symm)⟩
theorem StL.frT {w w' : World} {T : Nat → Prop} {g s : Nat} {ty : TypeId} {cs : Array Value} {L : List Ent} (h : StL w s L) (hb : Blk w g ty cs) (h1 : ty ≠ 69) (h2 : ty ≠ 100) (hf : Fr T w w') (hT : ∀ k, T k → k = g) : StL w' s L := by
 obtain ⟨t, ⟨a, hk, hn⟩, e⟩ := h
 exact ⟨t, ⟨a, hk.fr hf (fun x => blk_apart hb hk h2 (hT s x).symm), hn.frT hb h1 hf hT⟩, e⟩
structure DL (w W : World) (g gl : Nat) (S : Nat → Prop) (s : Nat) (st : Rst) (last : NameV) (L : List Ent) : Prop where
 rr : Rr W g S st.1 st.2.1 st.2.2
 lb : Blk W gl 44 last.cells.toArray
 sl : StL W s L
 fr : Fr Nothing w W
 new : w.heap.size ≤ g ∧ w.heap.size ≤ gl
 ap : ∀ k, S k → k < gl
theorem DL.read {w W W' : World} {g gl s : Nat} {S : Nat → Prop} {st st' : Rst} {last : NameV} {L : List Ent} (h : DL w W g gl S s st last L) (k : RrStep W g S W' st'.1 st'.2.1 st'.2.2) : DL w W' g gl S s st' last L := by
 obtain ⟨⟨A, n, c, hb, _, _⟩, _, _⟩ := h.rr
 exact ⟨k.rr, h.lb.fr k.fr (fun e => blk_apart hb h.lb (by decide) (show gl = g from e).symm), h.sl.frT hb (by decide) (by decide) k.fr (fun _ x => x), h.fr.then_ k.fr (fun i hi e => by have e' : i = g := e; have := h.new; omega), h.new, h.ap⟩
theorem DL.far {w W W' : World} {g gl s : Nat} {S : Nat → Prop} {st : Rst} {last : NameV} {L : List Ent} (h : DL w W g gl S s st last L) (f : Fr Nothing W W') : DL w W' g gl S s st last L :=
 ⟨h.rr.keep0 f, h.lb.fr f (fun x => x), h.sl.fr0 f, h.fr.trans f, h.new, h.ap⟩
theorem DL.put {w W W' : World} {g gl s : Nat} {S : Nat → Prop} {st : Rst} {last m : NameV} {L : List Ent} (h : DL w W g gl S s st last L) (hb : Blk W' gl 44 m.cells.toArray) (f : Fr (fun k => k = gl) W W') : DL w W' g gl S s st m L := by
 obtain ⟨⟨A, n, c, hg, _, _⟩, _, _⟩ := h.rr
 exact ⟨h.rr.keep f (fun e => blk_apart hg h.lb (by decide) e) (fun k hk e => by have e' : k = gl := e; have := h.ap k hk; omega), hb, h.sl.frT h.lb (by decide) (by decide) f (fun _ x => x), h.fr.then_ f (fun i hi e => by have e' : i = gl := e; have := h.new; omega), h.new, h.ap⟩
theorem DL.state {w W W' : World} {g gl s s' : Nat} {S : Nat → Prop} {st : Rst} {last : NameV} {L L' : List Ent} (h : DL w W g gl S s st last L) (f : Fr Nothing W W') (k : StL W' s' L') : DL w W' g gl S s' st last L' :=
 ⟨h.rr.keep0 f, h.lb.fr f (fun x => x), k, h.fr.trans f, h.new, h.ap⟩
def SDecoded (w : World) (R : Int × List Ent) (e : Ending) (w' : World) : Prop := ∃ p, e = .returned (.tuple #[.pointer p, .int .i64 R.1]) ∧ Fr Nothing w w' ∧ ((R.1 = 0 ∧ ∃ s, p = some ⟨s, 0, none⟩ ∧ StL w' s R.2) ∨ (R.1 ≠ 0 ∧ p = none))
def DLoop (w : World) (g gl : Nat) (S : Nat → Prop) (N : Nat) (R : Int × List Ent) (s i : Value) (W : World) : Prop :=
 ∃ (k s' : Nat) (st : Rst) (last : NameV) (L : List Ent), k ≤ N ∧ s = .pointer (some ⟨s', 0, none⟩) ∧ i = .int .i64 (k : Int) ∧ L.length = k ∧ KInv L last st ∧ (L = [] → last.owner.size = 0) ∧ decL (N - k) st last L = R ∧ DL w W g gl S s' st last L
theorem txD_le (st : Rst) : (txD st).1.length ≤ 65536 := by
 unfold txD rStep
 split
 ·simp
 ·split
  ·simp
  next h =>
   simp only [pText] at h ⊢
   split
   ·simp
   ·split
    ·simp
    ·split
     ·simp
     next h1 h2 h3 =>
      simp only [List.length_take]
      omega
theorem decL_bad1 {n : Nat} {st : Rst} {last : NameV} {L : List Ent} (h : (txD st).2.2.2 ≠ 0) : decL (n + 1) st last L = ((txD st).2.2.2, []) := by
 rw [decL, if_pos h]
theorem decL_bad2 {n : Nat} {st : Rst} {last : NameV} {L : List Ent} (h1 : (txD st).2.2.2 = 0) (h : (decN (txD st).1).2 ≠ 0) : decL (n + 1) st last L = ((decN (txD st).1).2, []) := by
 rw [decL, if_neg (by simp [h1]), if_pos h]
theorem decL_bad3 {n : Nat} {st : Rst} {last : NameV} {L : List Ent} (h1 : (txD st).2.2.2 = 0) (h2 : (decN (txD st).1).2 = 0) (h : 0 < L.length ∧ cmpN (decN (txD st).1).1 last ≤ 0) : decL (n + 1) st last L = (32, []) := by
 rw [decL, if_neg (by simp [h1]), if_neg (by simp [h2]), if_pos h]
theorem decL_bad4 {n : Nat} {st : Rst} {last : NameV} {L : List Ent} (h1 : (txD st).2.2.2 = 0) (h2 : (decN (txD st).1).2 = 0) (h3 : ¬ (0 < L.length ∧ cmpN (decN (txD st).1).1 last ≤ 0)) (h : (txD (txD st).2).2.2.2 ≠ 0) : decL (n + 1) st last L = ((txD (txD st).2).2.2.2, []) := by
 rw [decL, if_neg (by simp [h1]), if_neg (by simp [h2]), if_neg h3, if_pos h]
theorem decL_next {n : Nat} {st : Rst} {last : NameV} {L : List Ent} (h1 : (txD st).2.2.2 = 0) (h2 : (decN (txD st).1).2 = 0) (h3 : ¬ (0 < L.length ∧ cmpN (decN (txD st).1).1 last ≤ 0)) (h : (txD (txD st).2).2.2.2 = 0) :
  decL (n + 1) st last L = decL n (txD (txD st).2).2 (decN (txD st).1).1 (L ++ [((decN (txD st).1).1, ⟨(txD (txD st).2).1.toArray⟩)]) := by
 rw [decL, if_neg (by simp [h1]), if_neg (by simp [h2]), if_neg h3, if_neg (by simp [h])]
theorem num_le (l : List UInt8) (most : Int) (hm : 0 ≤ most) : 0 ≤ (rStep 0 (pNumber most) (l, 0, 0)).1 ∧ (rStep 0 (pNumber most) (l, 0, 0)).1 ≤ most := by
 unfold rStep
 simp only [ne_eq, not_true_eq_false, if_false]
 split
 ·exact ⟨Int.le_refl _, hm⟩
 next h =>
  simp only [pNumber] at h ⊢
  split at h
  ·omega
  next h2 =>
   have h3 : (pn l 9).2.2 = 0 := by omega
   have : ¬ most < ((pn l 9).1 : Int) := fun e => h2 ⟨h3, e⟩
   omega
set_option maxRecDepth 100000 in
set_option maxHeartbeats 4000000 in
theorem SDec_any (A : Option Addr) (n c : Nat) (l : List UInt8) (S0 : Nat → Prop) (w : World) (hr : Rd w S0 1 A n (l.map bv)) (hl : l.length ≤ 70000) (hU : UsaT w) :
  Calls Tryz.prog 7 #[.slice A n c] w (SDecoded w (decS l)) := by
 have hln : l.length = n := by simpa using hr.1
 have HU := Lib.hid hU
 have HR0 := Lib.hid hr
 have HN1 : Hid (n ≤ 1099511627776) := by simp only [Hid]; omega
 have HLL := Lib.hid hl
 have HNB := num_le l 65536 (by omega)
 obtain ⟨N, hN⟩ : ∃ N : Nat, (rStep 0 (pNumber 65536) (l, 0, 0)).1 = (N : Int) := ⟨(rStep 0 (pNumber 65536) (l, 0, 0)).1.toNat, by omega⟩
 obtain ⟨R, hR⟩ : ∃ R, decS l = R := ⟨_, rfl⟩
 have HRR : Hid (decL N (rStep 0 (pNumber 65536) (l, 0, 0)).2 nmZ [] = R) := by
  simp only [Hid]
  rw [← hR, decS, hN, Int.toNat_natCast]
 have HI0 : Hid (KInv [] nmZ (rStep 0 (pNumber 65536) (l, 0, 0)).2) := KInv.nil hl _ (rNum_rest 65536 (l, 0, 0))
 rw [hR]
 rw [hN] at HNB
 have HNN := Lib.hid hN
 have nN : N ≤ 65536 := by omega
 clear hr hln hl hU hN HNB hR
 go_enter Tryz.func7, Tryz.ntmps7
 go_wp2_with fail
 refine (NewReader_any A n c l _ S0 HR0.out HN1.out).mono ?_
 rintro e w1 ⟨g, S, rfl, hr1, f1, hg1, hS1⟩
 have R1 := Lib.hid hr1
 have F1 := Lib.hid f1
 have HG : Hid (w.heap.size ≤ g) := hg1
 have HS1 : Hid (∀ k, S k → k < w1.heap.size) := fun k hk => (hS1 k hk).2
 clear hr1 f1 hg1 hS1
 go_wp2_with fail
 refine (New_any _).mono ?_
 rintro e w2 ⟨s0, rfl, hs2, f2⟩
 have SL2 : Hid (StL w2 s0 []) := ⟨.leaf, hs2, rfl⟩
 have R2 := Lib.hid (R1.out.keep0 f2)
 have F2 := Lib.hid (F1.out.trans f2)
 have HS2 : Hid (∀ k, S k → k < w2.heap.size) := fun k hk => Nat.lt_of_lt_of_le (HS1.out k hk) f2.size
 clear hs2 f2 R1 F1 HS1
 go_wp2_with fail
 refine (rdNumber_any g S l 0 0 65536 _ R2.out).mono ?_
 rintro e w3 ⟨rfl, hst⟩
 rw [HNN.out]
 have ST3 : Hid (RrStep w2 g S w3 (rStep 0 (pNumber 65536) (l, 0, 0)).2.1 (rStep 0 (pNumber 65536) (l, 0, 0)).2.2.1 (rStep 0 (pNumber 65536) (l, 0, 0)).2.2.2) := hst
 clear hst
 go_wp2_with (refine wpList_allocBlk rfl 44 rfl nameZ zvNameO (nmD 0 ByteArray.empty 0 0 ByteArray.empty) rfl ?_)
 intro w4 n4
 have D0 : Hid (DL w w4 g w3.heap.size S s0 (rStep 0 (pNumber 65536) (l, 0, 0)).2 nmZ []) := by
  obtain ⟨⟨A', n', c', hb, _, _⟩, _, _⟩ := R2.out
  have h3 := F2.out.then_ ST3.out.fr (T' := Only g) (T := Nothing) (fun i hi e => by have e' : i = g := e; have := HG.out; omega)
  exact ⟨ST3.out.rr.keep0 n4.fr, n4.blk, (SL2.out.frT hb (by decide) (by decide) ST3.out.fr (fun _ x => x)).fr0 n4.fr, h3.trans n4.fr, ⟨HG.out, h3.size⟩, fun k hk => Nat.lt_of_lt_of_le (HS2.out k hk) ST3.out.fr.size⟩
 clear n4 ST3 SL2 R2 F2 HS2 HG HR0 HN1 HNN
 generalize w3.heap.size = gl at *
 have HL0 : Hid (DLoop w g gl S N R (.pointer (some ⟨s0, 0, none⟩)) (.int .i64 0) w4) := ⟨0, s0, _, _, _, by omega, rfl, rfl, rfl, HI0.out, (fun _ => rfl), HRR.out, D0.out⟩
 clear HI0 HRR D0
 go_wp2
 go_loopw [5, 24] (fun s i wr => DLoop w g gl S N R s i wr) (fun _ i _ => N - (intOf i).toNat)
 case atStart => exact HL0.out
 case round =>
  obtain ⟨k, s1, st, last, L, hk, rfl, rfl, hLk, hI, hZ, hD, hDL⟩ := hrel
  have NLZ : Hid (L = [] → last.owner.size ≤ 1099511627776) := fun e => by rw [hZ e]; omega
  have DI := Lib.hid hI
  have DD := Lib.hid hD
  have D0 := Lib.hid hDL
  have LK := Lib.hid hLk
  clear hI hD hDL HL0 hLk hZ
  have LSZ : Hid (last.owner.size ≤ 1099511627776) := by
   rcases DI.out.last with e | ⟨M, v, e⟩
   ·exact NLZ.out e
   ·have := DI.out.owner (last, v) (by rw [e]; simp); simp only at this; simp only [Hid]; omega
  by_cases hlt : k < N
  ·have t0 : decide ((k : Int) < (N : Int)) = true := decide_eq_true (by omega)
   have DE : Hid (decL (N - k - 1 + 1) st last L = R) := by simp only [Hid]; rw [show N - k - 1 + 1 = N - k by omega]; exact DD.out
   clear DD
   go_wp2_with fail
   refine (rText_any g S st.1 st.2.1 st.2.2 65536 _ D0.out.rr).mono ?_
   rintro e W1 ⟨rfl, hst⟩
   have D1 : Hid (DL w W1 g gl S s1 (txD st).2 last L) := D0.out.read (st' := (txD st).2) hst
   rw [show rStep [] (pText 65536) (st.1, st.2.1, st.2.2) = txD st from rfl]
   clear hst D0
   go_wp2_with fail
   refine (rFailed_any g S _ _ _ _ D1.out.rr).mono ?_
   rintro e W2 ⟨rfl, f2⟩
   have D2 := Lib.hid (D1.out.far f2)
   clear f2 D1
   by_cases c0 : (txD st).2.2.2 ≠ 0
   ·have tb : ((txD st).2.2.2 != 0) = true := by rw [bne_iff_ne]; exact c0
    have HE : Hid (R = ((txD st).2.2.2, [])) := by simp only [Hid]; rw [← DE.out, decL_bad1 c0]
    have HC0 := Lib.hid c0
    generalize (txD st).2.2.2 = ev at *
    clear c0
    go_wp2
    go_ret2
    refine ⟨none, ?_, D2.out.fr, .inr ⟨?_, rfl⟩⟩
    ·rw [HE.out]; first | done | rfl
    ·rw [HE.out]; exact HC0.out
   have tb : ((txD st).2.2.2 != 0) = false := by rw [bne_eq_false_iff_eq]; omega
   have C0 : Hid ((txD st).2.2.2 = 0) := by simp only [Hid]; omega
   have HX : Hid ((txD st).1.length ≤ 65536 ∧ (txD st).1.length ≤ 70000) := by
    have h1 := rText_len 65536 st
    have h2 := DI.out.len
    have h3 : (txD st).1.length ≤ 65536 := txD_le st
    exact ⟨h3, by omega⟩
   obtain ⟨m, hm⟩ : ∃ m, decN (txD st).1 = m := ⟨_, rfl⟩
   have HM := Lib.hid hm
   have CD : Hid (∀ w', Fr Nothing w w' → Calls Tryz.prog 31 #[tV (txD st).1] w' (fun e w'' => e = .returned (.tuple #[.agg m.1.cells.toArray, .int .i64 m.2]) ∧ Fr Nothing w' w'')) := fun w' f => by
    have h := NDec_any ⟨(txD st).1.toArray⟩ w' (HU.out.fr0 f) (by have := HX.out.1; simp [ByteArray.size]; omega)
    unfold NDecAny at h
    rw [strL_mk', hm] at h
    exact h
   have MS : Hid (m.1.owner.size ≤ 70000 ∧ m.1.text.size ≤ 70000) := by
    have h := decN_small (txD st).1
    rw [hm] at h
    have := HX.out.2
    simp only [Hid]
    omega
   clear c0 hm
   generalize htx : tV (txD st).1 = tx at *
   generalize hgz : (txD st).2.2.2 = ev at tb ⊢
   obtain rfl : ev = 0 := by rw [← hgz]; exact C0.out
   clear hgz
   clear htx
   go_wp2_with fail
   refine (CD.out _ D2.out.fr).mono ?_
   rintro e W3 ⟨rfl, f3⟩
   have D3 := Lib.hid (D2.out.far f3)
   clear f3 D2 CD tb
   go_wp2_with (refine wpList_allocBlk rfl 44 rfl nameZ zvNameO (nmD 0 ByteArray.empty 0 0 ByteArray.empty) rfl ?_)
   intro W4 n4
   have N4 := Lib.hid n4
   clear n4
   generalize hgn : W3.heap.size = gn at *
   have HGN := Lib.hid hgn
   clear hgn
   have NB4 : Hid (Blk W4 gn 44 (nmD 0 ByteArray.empty 0 0 ByteArray.empty)) := by have h := N4.out.blk; rw [HGN.out] at h; exact h
   go_wp2_with (refine wpList_storeBlk rfl 44 (.tmp 12) _ rfl gn m.1.cells.toArray rfl rfl _ _ NB4.out infoNm5 rfl m.1.one ?_)
   intro W5 b5 f5
   have NB5 := Lib.hid b5
   have F35 : Hid (Fr Nothing W3 W5) := N4.out.fr.then_ f5 (fun i hi e => by have e' : i = gn := e; have := HGN.out; omega)
   have D5 := Lib.hid (D3.out.far F35.out)
   have GN5 : Hid (gn ≠ gl) := by have := D3.out.lb.lt; have := HGN.out; simp only [Hid]; omega
   clear b5 f5 N4 NB4 F35 D3 HGN
   have GNE : Hid (gn ≠ gl) := GN5.out
   by_cases c1 : m.2 ≠ 0
   ·have tb : (m.2 != 0) = true := by rw [bne_iff_ne]; exact c1
    have HE : Hid (R = (m.2, [])) := by simp only [Hid]; rw [← DE.out, decL_bad2 C0.out (by rw [HM.out]; exact c1), HM.out]
    have HC1 := Lib.hid c1
    generalize m.2 = ev at *
    clear c1
    go_wp2
    go_ret2
    refine ⟨none, ?_, D5.out.fr, .inr ⟨?_, rfl⟩⟩
    ·rw [HE.out]; first | done | rfl
    ·rw [HE.out]; exact HC1.out
   have tb : (m.2 != 0) = false := by rw [bne_eq_false_iff_eq]; omega
   have C1 : Hid ((decN (txD st).1).2 = 0) := by simp only [Hid]; rw [HM.out]; omega
   clear c1
   have CC : Hid (∀ w', Calls Tryz.prog 32 #[.agg m.1.cells.toArray, .agg last.cells.toArray] w' (Same' w' (.int .i64 (cmpN m.1 last)))) := fun w' => objCompare_any m.1 last w' (by have := MS.out; omega) LSZ.out
   obtain ⟨P, eP⟩ : ∃ z : Bool, decide (0 < k) = z := ⟨_, rfl⟩
   obtain ⟨Q, eQ⟩ : ∃ z : Bool, decide (cmpN m.1 last ≤ 0) = z := ⟨_, rfl⟩
   obtain ⟨B, hB⟩ : ∃ z : Bool, (bif P then Q else false) = z := ⟨_, rfl⟩
   have HB := Lib.hid hB
   clear hB
   have HB' : Hid (decide (0 < L.length ∧ cmpN m.1 last ≤ 0) = B) := by rw [Hid, ← HB.out, ← eP, ← eQ, LK.out]; simp
   go_upto_region 14 with fail
   refine wq_is 8 [.int .i64 (k : Int), .bool P, .bool P, bif P then .agg m.1.cells.toArray else undef, bif P then .agg last.cells.toArray else undef, bif P then .int .i64 (cmpN m.1 last) else undef, bif P then .bool Q else undef, .bool B] ?_ ?_
   ·refine ⟨?xb0, ?xb1, ?xb2, ?xb3, ?xb4, ?xb5, ?xb6, ?xb7, trivial⟩
    all_goals intro u w' hf hR
    all_goals simp only [z1, z2, z3, z4, puts, Act.put, z5, z6, z7, Nat.reduceAdd, Nat.zero_add]
    case' xb1 => simp only [show u 0 = _ from hR 0]
    case' xb2 => simp only [show u 1 = _ from hR 1]
    case xb3 =>
     simp only [show u 2 = _ from hR 2]
     cases P
     case false => exact skS
     refine goS ?_
     exact wp_load_add _ _ rfl ⟨gn, 0, none⟩ rfl m.1.cells _ (fun j x hx => by rw [Addr.add_mid, Nat.zero_add]; exact (NB5.out.fr hf (fun x => x)).cell j |>.trans (by rw [List.getElem?_toArray]; exact hx)) Tryz.underlying44 rfl infoName ⟨rfl, Fr.refl _ _⟩
    case xb4 =>
     simp only [show u 2 = _ from hR 2]
     cases P
     case false => exact skS
     refine goS ?_
     exact wp_load_add _ _ rfl ⟨gl, 0, none⟩ rfl last.cells _ (fun j x hx => by rw [Addr.add_mid, Nat.zero_add]; exact (D5.out.lb.fr hf (fun x => x)).cell j |>.trans (by rw [List.getElem?_toArray]; exact hx)) Tryz.underlying44 rfl infoName ⟨rfl, Fr.refl _ _⟩
    case xb5 =>
     simp only [show u 3 = _ from hR 3, show u 4 = _ from hR 4, show u 2 = _ from hR 2]
     cases P
     case false => exact skS
     refine goS ?_
     go_simp
     refine (CC.out _).mono ?_
     rintro e w4 ⟨rfl, f4⟩
     exact ⟨rfl, f4⟩
    case' xb6 =>
     simp only [show u 5 = _ from hR 5, show u 2 = _ from hR 2]
     cases P
     case false => exact skS
    case xb7 =>
     simp only [show u 2 = _ from hR 2, show u 6 = _ from hR 6]
     cases P <;> exact goS (by go_simp; exact ⟨by rw [← HB.out]; rfl, Fr.refl _ _⟩)
    all_goals
     try simp only [cond]
     refine goS ?_
     go_simp
     exact ⟨rfl, Fr.refl _ _⟩
   ·intro w' hf
    simp only [z1, z2, z3, z4, puts, Act.put, z5, z6, z7, z8, z9, z10, z11, Nat.reduceAdd, Nat.zero_add]
    have fc := hf
    clear hf
    clear HB eP eQ
    have HB := Lib.hid HB'.out
    clear HB'
    have D6 := Lib.hid (D5.out.far fc)
    have NB6 := Lib.hid (NB5.out.fr fc (fun x => x))
    clear fc D5 NB5 CC
    cases hBB : B
    case true =>
     rw [hBB] at HB
     have HE : Hid (R = (32, [])) := by simp only [Hid]; rw [← DE.out, decL_bad3 C0.out C1.out (by rw [HM.out]; exact of_decide_eq_true HB.out)]
     clear hBB
     go_wp2
     go_ret2
     refine ⟨none, ?_, D6.out.fr, .inr ⟨?_, rfl⟩⟩
     ·rw [HE.out]; first | done | rfl
     ·rw [HE.out]; simp
    case false =>
     rw [hBB] at HB
     have C2 : Hid (¬ (0 < L.length ∧ cmpN (decN (txD st).1).1 last ≤ 0)) := by simp only [Hid]; rw [HM.out]; exact of_decide_eq_false HB.out
     clear hBB HB
     go_wp2_with (refine wpList_load_add rfl 44 (.tmp 12) rfl ⟨gn, 0, none⟩ rfl m.1.cells _ ?hcc1 Tryz.underlying44 rfl infoName (Held.go ?hold1))
     case hcc1 => exact fun j x hx => by rw [Addr.add_mid, Nat.zero_add]; exact NB6.out.cell j |>.trans (by rw [List.getElem?_toArray]; exact hx)
     unfold Held
     refine wpList_storeBlk rfl 44 (.tmp 7) _ rfl gl m.1.cells.toArray rfl rfl _ _ D6.out.lb infoNm5 rfl m.1.one ?_
     intro W7 b7 f7
     have D7 := Lib.hid (D6.out.put b7 f7)
     have NE : Hid (gn ≠ gl) := GNE.out
     have NB7 := Lib.hid (NB6.out.fr f7 (fun e => NE.out e))
     clear b7 f7 D6 NB6
     go_wp2_with fail
     refine (rText_any g S (txD st).2.1 (txD st).2.2.1 (txD st).2.2.2 65536 _ D7.out.rr).mono ?_
     rintro e W8 ⟨rfl, hst⟩
     have HRD : Hid (RrStep W7 g S W8 (txD (txD st).2).2.1 (txD (txD st).2).2.2.1 (txD (txD st).2).2.2.2) := hst
     have D8 : Hid (DL w W8 g gl S s1 (txD (txD st).2).2 m.1 L) := D7.out.read (st' := (txD (txD st).2).2) hst
     have NB8 : Hid (Blk W8 gn 44 m.1.cells.toArray) := by
      obtain ⟨⟨A', n', c', hb, _, _⟩, _, _⟩ := D7.out.rr
      exact NB7.out.fr HRD.out.fr (fun e => blk_apart hb NB7.out (by decide) (show gn = g from e).symm)
     rw [show rStep [] (pText 65536) ((txD st).2.1, (txD st).2.2.1, (txD st).2.2.2) = txD (txD st).2 from rfl]
     clear hst HRD D7 NB7
     go_wp2_with fail
     refine (rFailed_any g S _ _ _ _ D8.out.rr).mono ?_
     rintro e W9 ⟨rfl, f9⟩
     have D9 := Lib.hid (D8.out.far f9)
     have NB9 := Lib.hid (NB8.out.fr f9 (fun x => x))
     clear f9 D8 NB8
     by_cases c3 : (txD (txD st).2).2.2.2 ≠ 0
     ·have tb : ((txD (txD st).2).2.2.2 != 0) = true := by rw [bne_iff_ne]; exact c3
      have HE : Hid (R = ((txD (txD st).2).2.2.2, [])) := by simp only [Hid]; rw [← DE.out, decL_bad4 C0.out C1.out C2.out c3]
      have HC3 := Lib.hid c3
      generalize (txD (txD st).2).2.2.2 = ev at *
      clear c3
      go_wp2
      go_ret2
      refine ⟨none, ?_, D9.out.fr, .inr ⟨?_, rfl⟩⟩
      ·rw [HE.out]; first | done | rfl
      ·rw [HE.out]; exact HC3.out
     have tb : ((txD (txD st).2).2.2.2 != 0) = false := by rw [bne_eq_false_iff_eq]; omega
     have C3 : Hid ((txD (txD st).2).2.2.2 = 0) := by simp only [Hid]; omega
     have NX : Hid (KInv (L ++ [(m.1, ⟨(txD (txD st).2).1.toArray⟩)]) m.1 (txD (txD st).2).2 ∧ insL m.1 ⟨(txD (txD st).2).1.toArray⟩ L = L ++ [(m.1, ⟨(txD (txD st).2).1.toArray⟩)] ∧ okNm m.1 = true) := by
      have h := DI.out.next C1.out C2.out C3.out
      have h1 := (decN_inv C1.out).1
      rw [HM.out] at h h1
      exact ⟨h.1, h.2.1, h1⟩
     have HD2 : Hid (decL (N - k - 1) (txD (txD st).2).2 m.1 (L ++ [(m.1, ⟨(txD (txD st).2).1.toArray⟩)]) = R) := by
      simp only [Hid]
      rw [← DE.out, decL_next C0.out C1.out C2.out C3.out, HM.out]
     have HVS : Hid ((txD (txD st).2).1.length ≤ 65536) := txD_le _
     have CW : Hid (∀ w', Fr Nothing W9 w' → Calls Tryz.prog 14 #[.pointer (some ⟨s1, 0, none⟩), .agg m.1.cells.toArray, tV (txD (txD st).2).1] w' (Withed w' L m.1 ⟨(txD (txD st).2).1.toArray⟩)) := fun w' f => With_any L m.1 _ s1 w' (D9.out.sl.fr0 f) (HU.out.fr0 (D9.out.fr.trans f)) DI.out.good ⟨by have := MS.out; omega, by have := MS.out; omega⟩
     clear c3
     generalize hgz : (txD (txD st).2).2.2.2 = ev at tb ⊢
     obtain rfl : ev = 0 := by rw [← hgz]; exact C3.out
     clear hgz
     go_wp2_with (refine wpList_load_add rfl 44 (.tmp 12) rfl ⟨gn, 0, none⟩ rfl m.1.cells _ ?hcc2 Tryz.underlying44 rfl infoName (Held.go ?hold2))
     case hcc2 => exact fun j x hx => by rw [Addr.add_mid, Nat.zero_add]; exact NB9.out.cell j |>.trans (by rw [List.getElem?_toArray]; exact hx)
     unfold Held
     go_wp2_with fail
     refine (CW.out _ (Fr.refl _ _)).mono ?_
     rintro e Wa ⟨p, q, rfl, fa, hcase⟩
     obtain ⟨rfl, s2, rfl, hp⟩ : q = 0 ∧ ∃ s2, p = some ⟨s2, 0, none⟩ ∧ StL Wa s2 (L ++ [(m.1, ⟨(txD (txD st).2).1.toArray⟩)]) := by
      rw [← NX.out.2.1]
      rcases hcase with ⟨_, _, h⟩ | ⟨h, _⟩ | ⟨_, h, _⟩
      ·exact h
      ·rw [NX.out.2.2] at h; cases h
      ·exact absurd HVS.out (by simp [ByteArray.size] at h; omega)
     have DA : Hid (DL w Wa g gl S s2 (txD (txD st).2).2 m.1 (L ++ [(m.1, ⟨(txD (txD st).2).1.toArray⟩)])) := D9.out.state fa hp
     clear hcase hp fa CW D9 NB9 tb
     go_wp2
     go_roundw
     case rel =>
      refine ⟨k + 1, s2, _, _, _, by omega, rfl, by go_num, ?_, NX.out.1, (fun e => by simp at e), ?_, DA.out⟩
      ·have := LK.out; simp; omega
      ·rw [show N - (k + 1) = N - k - 1 by omega]; exact HD2.out
     case measure => simp [intOf]; omega
  ·have t0 : decide ((k : Int) < (N : Int)) = false := decide_eq_false (by omega)
   obtain ⟨ce, hce⟩ : ∃ ce, closeN st = ce := ⟨_, rfl⟩
   have HE : Hid (R = (ce, L)) := by
    have h := DD.out
    rw [show N - k = 0 by omega, decL, hce] at h
    exact h.symm
   have CL : Hid (∀ w', Fr Nothing wr w' → Calls Tryz.prog 33 #[.pointer (some ⟨g, 0, none⟩)] w' (Same' w' (.int .i64 ce))) := fun w' hf => by
    have h := rClose_any g S st.1 st.2.1 st.2.2 w' (D0.out.rr.keep0 hf)
    rw [← hce]
    exact h.mono (fun e w'' ⟨h1, h2⟩ => ⟨h1, by rw [h2]; exact Fr.refl _ _⟩)
   clear hce DD
   go_wp2_with fail
   refine (CL.out _ (Fr.refl _ _)).mono ?_
   rintro e W1 ⟨rfl, f1⟩
   have D1 := Lib.hid (D0.out.far f1)
   clear f1 CL D0
   by_cases cz : ce = 0
   ·subst cz
    go_wp2
    go_ret2
    refine ⟨some ⟨s1, 0, none⟩, ?_, D1.out.fr, .inl ⟨?_, s1, rfl, ?_⟩⟩
    ·rw [HE.out]; first | done | rfl
    ·rw [HE.out]; first | done | rfl
    ·rw [HE.out]; exact D1.out.sl
   ·have tb : (ce != 0) = true := by rw [bne_iff_ne]; exact cz
    have HCZ := Lib.hid cz
    clear cz
    go_wp2
    go_ret2
    refine ⟨none, ?_, D1.out.fr, .inr ⟨?_, rfl⟩⟩
    ·rw [HE.out]; first | done | rfl
    ·rw [HE.out]; exact HCZ.out
end Go.Proofs.YtpnchdgplpdefaaGreatDoor
