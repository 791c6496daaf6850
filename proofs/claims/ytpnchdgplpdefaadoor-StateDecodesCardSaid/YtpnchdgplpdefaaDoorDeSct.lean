/- State: one change done to both (written by genSbL.py). -/
import Derived.Test.YtpnchdgplpdefaaDoorDeScl
import Derived.Test.YtpnchdgplpdefaaDoorDeScr
import Derived.Test.YtpnchdgplpdefaaDoorDeScs
import Derived.Test.YtpnchdgplpdefaaDoorDeSbI
namespace Go.Proofs.YtpnchdgplpdefaaDoor
open Go.RowKit Go.Shelf
theorem txD_bad {l : List UInt8} {a : Nat} (h : (pText 65536 (l.drop a)).2.2 ≠ 0) : (txD (l.drop a, a, 0)).2.2.2 = (pText 65536 (l.drop a)).2.2 := by
 unfold txD rStep
 simp only [ne_eq, not_true_eq_false, if_false]
 rw [if_pos h]
theorem txD_ok {l : List UInt8} {a : Nat} (h : (pText 65536 (l.drop a)).2.2 = 0) : txD (l.drop a, a, 0) = ((pText 65536 (l.drop a)).1, (l.drop (a + (pText 65536 (l.drop a)).2.1), a + (pText 65536 (l.drop a)).2.1, 0)) := by
 unfold txD
 have e : pText 65536 (l.drop a) = ((pText 65536 (l.drop a)).1, (pText 65536 (l.drop a)).2.1, 0) := by rw [← h]
 rw [rStep_ofN [] (pText 65536) (l.drop a) a _ _ e, List.drop_drop]
theorem rStep_badN {α : Type} (zero : α) (parse : List UInt8 → α × Nat × Int) (l : List UInt8) (p : Nat) (e : Int) (h : (parse l).2.2 = e) (h0 : e ≠ 0) : rStep zero parse (l, p, 0) = (zero, (l, p, e)) := by
 subst h
 unfold rStep
 simp [h0]
theorem decS_bad {l : List UInt8} (h : (pn l 9).2.2 ≠ 0) : decS l = ((((pn l 9).2.2 : Nat) : Int), []) := by
 unfold decS
 have e1 : (pNumber 65536 l).2.2 = (((pn l 9).2.2 : Nat) : Int) := if_neg (fun x => h x.1)
 rw [rStep_badN 0 (pNumber 65536) l 0 _ e1 (by omega)]
 simp only [decL, closeN, Int.toNat_zero]
 rw [if_neg (by omega)]
theorem decS_big {l : List UInt8} (h : (pn l 9).2.2 = 0) (h1 : 65536 < (pn l 9).1) : decS l = (2, []) := by
 unfold decS
 have e1 : (pNumber 65536 l).2.2 = 2 := if_pos ⟨h, by omega⟩
 rw [rStep_badN 0 (pNumber 65536) l 0 _ e1 (by decide)]
 rfl
theorem decS_go {l : List UInt8} (h : (pn l 9).2.2 = 0) (h1 : (pn l 9).1 ≤ 65536) : decS l = decL (pn l 9).1 (l.drop (pn l 9).2.1, (pn l 9).2.1, 0) nmZ [] := by
 unfold decS
 have e : rStep 0 (pNumber 65536) (l, 0, 0) = ((((pn l 9).1 : Nat) : Int), (l.drop (pn l 9).2.1, (pn l 9).2.1, 0)) := by
  have e1 : pNumber 65536 l = ((((pn l 9).1 : Nat) : Int), (pn l 9).2.1, 0) := by
   unfold pNumber
   rw [if_neg (fun x => by omega), h]
   rfl
  rw [rStep_ofN 0 (pNumber 65536) l 0 _ _ e1, Nat.zero_add]
 rw [e]
 simp only [Int.toNat_natCast]
def RDecd (w : World) (R : Int × List Ent) (e : Ending) (w' : World) : Prop := ∃ p, e = .returned (.tuple #[p, .int .i64 R.1]) ∧ Fr Nothing w w' ∧ ((R.1 = 0 ∧ RowE w' p R.2) ∨ (R.1 ≠ 0 ∧ p = .slice none 0 0))
def RDLoop (w : World) (l : List UInt8) (N : Nat) (R : Int × List Ent) (at_ out i : Value) (W : World) : Prop :=
 ∃ (k a : Nat) (last : NameV) (L : List Ent), k ≤ N ∧ at_ = .int .i64 (a : Int) ∧ i = .int .i64 (k : Int) ∧ a ≤ l.length ∧ L.length = k ∧ KInv L last (l.drop a, a, 0) ∧ (L = [] → last.owner.size = 0) ∧ decL (N - k) (l.drop a, a, 0) last L = R ∧ Grew 54 6 w (.slice none 0 0) W out L.length (L.flatMap entC)
set_option maxRecDepth 100000 in
set_option maxHeartbeats 4000000 in
theorem rSDec_any (A : Option Addr) (n c : Nat) (l : List UInt8) (S : Nat → Prop) (w : World) (hr : Rd w S 1 A n (l.map bv)) (hnc : n ≤ c) (hl : l.length ≤ 70000) :
  Calls Tryd.prog 39 #[.slice A n c] w (RDecd w (decS l)) := by
 obtain ⟨i0, hi0, hz0', hz1, hz2⟩ := info_parts zinfoE
 have hln : l.length = n := by simpa using hr.1
 have gc1 : Hid (¬ 1 * i0.size > 2 ^ 24) := by simp only [Hid]; rw [hz1]; omega
 have gc2 : Hid (¬ 1 * i0.size = 0) := by simp only [Hid]; rw [hz1]; omega
 have FS : Hid (∀ (n : NameV) (v : ByteArray), Instr.fill (fun i => some (i * i0.size, i0.size)) ((Array.range (1 * i0.size)).map (entZ.cells[· % entZ.cells.size]!)) [(0, .agg (entC (n, v)).toArray)] = some (entC (n, v)).toArray) := fun n v => by rw [hz1]; exact foldl6 _ _ rfl (by simp [entZ, Value.cells])
 have HP : Hid (Calls Tryd.prog 69 #[.slice A n c] w fun e w' => e = .returned (.tuple #[.int .i64 ((pn l 9).1 : Nat), .int .i64 ((pn l 9).2.1 : Nat), .int .i64 ((pn l 9).2.2 : Nat)]) ∧ w = w') := refParse_any A n c l w S hr (by omega)
 have HT : Hid (∀ w' (k : Nat), Fr Nothing w w' → k ≤ l.length → Calls Tryd.prog 70 #[.slice A n c, .int .i64 (k : Int), .int .i64 65536] w' (RText w' k 65536 (l.drop k))) := fun w' k f hk => rtext_any A n c k l 65536 w' S (hr.fr0 f) (by omega) hnc (by omega)
 have hps := (pn_size l 9 (by omega)).2
 have hp9 := pn_lt9 l
 have HLL := Lib.hid hl
 have HLN := Lib.hid hln
 obtain ⟨R, hR⟩ : ∃ R, decS l = R := ⟨_, rfl⟩
 have HB1 : Hid ((pn l 9).2.2 ≠ 0 → R = ((((pn l 9).2.2 : Nat) : Int), [])) := fun h => by rw [← hR]; exact decS_bad h
 have HB2 : Hid ((pn l 9).2.2 = 0 → 65536 < (pn l 9).1 → R = (2, [])) := fun h h1 => by rw [← hR]; exact decS_big h h1
 have HB3 : Hid ((pn l 9).2.2 = 0 → (pn l 9).1 ≤ 65536 → decL (pn l 9).1 (l.drop (pn l 9).2.1, (pn l 9).2.1, 0) nmZ [] = R) := fun h h1 => by rw [← hR]; exact (decS_go h h1).symm
 rw [hR]
 generalize (pn l 9).1 = N at *
 generalize (pn l 9).2.1 = a0 at *
 generalize (pn l 9).2.2 = e0 at *
 have HA0 := Lib.hid hps
 clear hr hl hln hR hps
 go_enter Tryd.func39, Tryd.ntmps39
 go_wp2_with fail
 refine HP.out.mono ?_
 rintro e w1 ⟨rfl, rfl⟩
 clear HP
 by_cases h0 : e0 = 0
 case neg =>
  have t0 : ((e0 : Int) != 0) = true := by rw [bne_iff_ne]; omega
  have HE := Lib.hid (HB1.out h0)
  have HN : Hid ((e0 : Int) ≠ 0) := by simp only [Hid]; omega
  clear HB1 HB2 HB3 h0
  go_wp2
  go_ret2
  rw [HE.out]
  exact ⟨_, rfl, Fr.refl _ _, .inr ⟨HN.out, rfl⟩⟩
 subst h0
 by_cases h1 : 65536 < N
 ·have t1 : decide ((65536 : Int) < (N : Int)) = true := decide_eq_true (by omega)
  have HE := Lib.hid (HB2.out rfl h1)
  clear HB1 HB2 HB3 h1
  go_wp2
  go_ret2
  rw [HE.out]
  exact ⟨_, rfl, Fr.refl _ _, .inr ⟨by decide, rfl⟩⟩
 have t1 : decide ((65536 : Int) < (N : Int)) = false := decide_eq_false (by omega)
 have nN : N ≤ 65536 := by omega
 have HL0 : Hid (RDLoop w l N R (.int .i64 (a0 : Int)) (.slice none 0 0) (.int .i64 0) w) := ⟨0, a0, nmZ, [], by omega, rfl, rfl, HA0.out, rfl, KInv.nil HLL.out _ (by simp only [List.length_drop]; omega), (fun _ => rfl), HB3.out rfl nN, Grew.start ⟨rfl, .inl ⟨rfl, rfl⟩⟩⟩
 clear HB1 HB2 HB3 HA0 h1
 go_wp2
 go_loopw [5, 7, 8] (fun a o i wr => RDLoop w l N R a o i wr) (fun _ _ i _ => N - (intOf i).toNat)
 case atStart => exact HL0.out
 case round =>
  obtain ⟨k, a, last, L, hk, rfl, rfl, ha, hLk, hI, hZ, hD, hG⟩ := hrel
  have DI := Lib.hid hI
  have DD := Lib.hid hD
  have KG := Lib.hid hG
  have LK := Lib.hid hLk
  have HA := Lib.hid ha
  have FW : Hid (Fr Nothing w wr) := hG.fr0
  obtain ⟨A7, n7, c7, rfl, H7, _⟩ := own_slice hG.own
  have LN : Hid (n7 = k) := by simp only [Hid]; rw [H7.out, hLk]
  have LSZ : Hid (last.owner.size ≤ 1099511627776) := by
   rcases DI.out.last with e | ⟨M, v, e⟩
   ·simp only [Hid]; rw [hZ e]; omega
   ·have := DI.out.owner (last, v) (by rw [e]; simp); simp only at this; simp only [Hid]; omega
  clear hI hD hG HL0 hLk hZ H7 ha
  by_cases hlt : k < N
  ·have t2 : decide ((k : Int) < (N : Int)) = true := decide_eq_true (by omega)
   have DE : Hid (decL (N - k - 1 + 1) (l.drop a, a, 0) last L = R) := by simp only [Hid]; rw [show N - k - 1 + 1 = N - k by omega]; exact DD.out
   clear DD
   have HZ1 : Hid ((pText 65536 (l.drop a)).2.1 ≤ (l.drop a).length ∧ a + (pText 65536 (l.drop a)).2.1 ≤ l.length) := by
    have h1 := pText_size 65536 (l.drop a)
    have h2 := HA.out
    rw [List.length_drop] at h1
    simp only [Hid, List.length_drop]
    omega
   have HBD : Hid ((pText 65536 (l.drop a)).2.2 ≠ 0 → R = ((pText 65536 (l.drop a)).2.2, [])) := fun h => by
    rw [← DE.out, decL_bad1 (by rw [txD_bad h]; exact h), txD_bad h]
   have HOK1 : Hid ((pText 65536 (l.drop a)).2.2 = 0 → txD (l.drop a, a, 0) = ((pText 65536 (l.drop a)).1, (l.drop (a + (pText 65536 (l.drop a)).2.1), a + (pText 65536 (l.drop a)).2.1, 0))) := fun h => txD_ok h
   have CT := Lib.hid (HT.out wr a FW.out HA.out)
   unfold RText at CT
   have HX1 : Hid ((pText 65536 (l.drop a)).2.2 = 0 → (pText 65536 (l.drop a)).1.length ≤ 65536) := fun h => by
    have := txD_le (l.drop a, a, 0)
    rw [txD_ok h] at this
    exact this
   generalize (pText 65536 (l.drop a)).2.1 = z at *
   generalize (pText 65536 (l.drop a)).2.2 = ev at *
   generalize (pText 65536 (l.drop a)).1 = tx at *
   obtain ⟨b, hb⟩ : ∃ b : Nat, a + z = b := ⟨_, rfl⟩
   have eb : (a : Int) + (z : Int) = (b : Int) := by omega
   rw [hb] at HZ1 HOK1
   rw [eb] at CT
   clear eb hb
   go_wp2_with fail
   refine CT.out.mono ?_
   rintro e W1 ⟨rfl, f1⟩
   have F1 := Lib.hid (FW.out.trans f1)
   have KG1 := Lib.hid (KG.out.behind f1)
   clear f1 CT KG FW
   by_cases c0 : ev = 0
   case neg =>
    have tb : (ev != 0) = true := by rw [bne_iff_ne]; exact c0
    have HE := Lib.hid (HBD.out c0)
    have HC0 := Lib.hid c0
    clear c0 HBD HOK1 HX1
    go_wp2
    go_ret2
    rw [HE.out]
    exact ⟨_, rfl, F1.out, .inr ⟨HC0.out, rfl⟩⟩
   subst c0
   have E1 := Lib.hid (HOK1.out rfl)
   have HX := Lib.hid (HX1.out rfl)
   clear HBD HOK1 HX1
   obtain ⟨m, hm⟩ : ∃ m, decN tx = m := ⟨_, rfl⟩
   have HM := Lib.hid hm
   have CD : Hid (∀ w', Calls Tryd.prog 71 #[.string ⟨tx.toArray⟩] w' (fun e w'' => e = .returned (.tuple #[.agg m.1.cells.toArray, .int .i64 m.2]) ∧ Fr Nothing w' w'')) := fun w' => by
    have h := rNDec_any ⟨tx.toArray⟩ w' (by have := HX.out; simp [ByteArray.size]; omega)
    unfold RNDec at h
    rw [strL_mk', rdecN_eq tx (by have := HX.out; omega), hm] at h
    exact h
   have MS : Hid (m.1.owner.size ≤ 70000) := by
    have h := decN_small tx
    rw [hm] at h
    have := HX.out
    simp only [Hid]
    omega
   clear hm
   go_wp2_with fail
   refine (CD.out _).mono ?_
   rintro e W3 ⟨rfl, f3⟩
   have F3 := Lib.hid (F1.out.trans f3)
   have KG3 := Lib.hid (KG1.out.behind f3)
   clear f3 F1 KG1 CD
   go_wp2_with (refine wpList_allocBlk rfl 40 rfl nameZ zvNRef (nmD 0 ByteArray.empty 0 0 ByteArray.empty) rfl ?_)
   intro W4 n4
   have N4 := Lib.hid n4
   clear n4
   generalize hgn : W3.heap.size = gn at *
   have HGN := Lib.hid hgn
   clear hgn
   have NB4 : Hid (Blk W4 gn 40 (nmD 0 ByteArray.empty 0 0 ByteArray.empty)) := by have h := N4.out.blk; rw [HGN.out] at h; exact h
   go_wp2_with (refine wpList_storeBlk rfl 40 (.tmp 12) _ rfl gn m.1.cells.toArray rfl rfl _ _ NB4.out infoNr5 rfl m.1.one ?_)
   intro W5 b5 f5
   have NB5 := Lib.hid b5
   have F35 : Hid (Fr Nothing W3 W5) := N4.out.fr.then_ f5 (fun i hi e => by have e' : i = gn := e; have := HGN.out; omega)
   have F5 := Lib.hid (F3.out.trans F35.out)
   have KG5 := Lib.hid (KG3.out.behind F35.out)
   clear b5 f5 N4 NB4 F35 F3 KG3 HGN
   by_cases c1 : m.2 = 0
   case neg =>
    have tb : (m.2 != 0) = true := by rw [bne_iff_ne]; exact c1
    have HE : Hid (R = (m.2, [])) := by
     simp only [Hid]
     rw [← DE.out, decL_bad2 (by rw [E1.out]) (by rw [E1.out]; simp only; rw [HM.out]; exact c1), E1.out]
     simp only
     rw [HM.out]
    have HC1 := Lib.hid c1
    generalize m.2 = ev at *
    clear c1
    go_wp2
    go_ret2
    rw [HE.out]
    exact ⟨_, rfl, F5.out, .inr ⟨HC1.out, rfl⟩⟩
   have tb : (m.2 != 0) = false := by rw [bne_eq_false_iff_eq]; exact c1
   have C1 : Hid ((decN tx).2 = 0) := by simp only [Hid]; rw [HM.out]; exact c1
   clear c1
   obtain ⟨q, hq⟩ : ∃ q : Nat, k - 1 = q := ⟨_, rfl⟩
   have HQ : Hid (0 < k → (k : Int) - 1 = (q : Int)) := fun h => by omega
   obtain ⟨ad, HXX⟩ : ∃ ad, Hid (0 < k → A7 = some ad ∧ ∀ j x, last.cells[j]? = some x → W5.cell? ((ad.add (q * 6)).add j) = some x) := by
    by_cases hk0 : 0 < k
    ·have hel := RowE.el (show RowE W5 (.slice A7 n7 c7) L from KG5.out.own)
     obtain ⟨ad, x, e1, e2, e3⟩ := hel.2.1.at_ (show q < n7 by have := LN.out; omega)
     refine ⟨ad, fun _ => ⟨e1, fun j v hv => e3 j v ?_⟩⟩
     have hx : x.1 = last := by
      rcases DI.out.last with e | ⟨M, v, e⟩
      ·have := LK.out; rw [e] at this; simp at this; omega
      ·have h1 := LK.out
       rw [e, List.length_append, List.length_singleton] at h1
       rw [e, List.getElem?_append_right (by omega), show q - M.length = 0 by omega] at e2
       cases e2
       rfl
     rw [entC, hx, List.getElem?_append_left (List.getElem?_eq_some_iff.1 hv).1]
     exact hv
    ·exact ⟨⟨0, 0, none⟩, fun h => absurd h hk0⟩
   clear hq
   have CC : Hid (∀ w', Calls Tryd.prog 46 #[.agg last.cells.toArray, .agg m.1.cells.toArray] w' (Same' w' (.int .i64 (cmpN last m.1)))) := fun w' => rCompare_any last m.1 w' LSZ.out (by have := MS.out; omega)
   obtain ⟨P, eP⟩ : ∃ z : Bool, decide (0 < k) = z := ⟨_, rfl⟩
   obtain ⟨Q, eQ⟩ : ∃ z : Bool, decide (0 ≤ cmpN last m.1) = z := ⟨_, rfl⟩
   obtain ⟨B, hB⟩ : ∃ z : Bool, (bif P then Q else false) = z := ⟨_, rfl⟩
   have HB := Lib.hid hB
   clear hB
   have HB' : Hid (decide (0 < L.length ∧ cmpN m.1 last ≤ 0) = B) := by
    have e : decide (0 ≤ cmpN last m.1) = decide (cmpN m.1 last ≤ 0) := decide_eq_decide.2 ⟨fun h => by
     by_cases h2 : cmpN m.1 last ≤ 0
     ·exact h2
     ·have := cmpN_neg (a := m.1) (b := last) (by omega); omega, fun h => by
     by_cases h2 : 0 ≤ cmpN last m.1
     ·exact h2
     ·have := cmpN_pos (a := last) (b := m.1) (by omega); omega⟩
    rw [Hid, ← HB.out, ← eP, ← eQ, e, LK.out]
    simp
   go_upto_region 16 with fail
   refine wp_is 13 [.int .i64 (k : Int), .bool P, .bool P, bif P then .slice A7 n7 c7 else undef, bif P then .int .i64 (k : Int) else undef, bif P then .int .i64 (q : Int) else undef, bif P then .pointer (some (ad.add (q * 6))) else undef, bif P then .pointer (some (ad.add (q * 6))) else undef, bif P then .agg last.cells.toArray else undef, bif P then .agg m.1.cells.toArray else undef, bif P then .int .i64 (cmpN last m.1) else undef, bif P then .bool Q else undef, .bool B] rfl (by kernel_rfl) (by kernel_rfl) (by kernel_rfl) ?_ ?_
   ·refine ⟨?xb0, ?xb1, ?xb2, ?xb3, ?xb4, ?xb5, ?xb6, ?xb7, ?xb8, ?xb9, ?xb10, ?xb11, ?xb12, trivial⟩
    all_goals intro u w' hf hR
    all_goals simp only [List.take_succ_cons, List.take_zero, List.map_cons, List.map_nil, puts, Act.put, List.setIfInBounds_toArray, List.set_cons_zero, List.set_cons_succ, Nat.reduceAdd, Nat.zero_add]
    case' xb1 => simp only [show u 0 = _ from hR 0 (by kernel_rfl)]
    case' xb2 => simp only [show u 1 = _ from hR 1 (by kernel_rfl)]
    case' xb3 =>
     simp only [show u 2 = _ from hR 2 (by kernel_rfl)]
     cases P
     case false => exact skS (by kernel_rfl)
    case' xb4 =>
     simp only [show u 2 = _ from hR 2 (by kernel_rfl)]
     cases P
     case false => exact skS (by kernel_rfl)
    case xb5 =>
     simp only [show u 4 = _ from hR 4 (by kernel_rfl), show u 2 = _ from hR 2 (by kernel_rfl)]
     cases P
     case false => exact skS (by kernel_rfl)
     refine .inl ⟨by kernel_rfl, ?_⟩
     have hk := of_decide_eq_true eP
     have e5 : (k : Int) - 1 = (q : Int) := HQ.out hk
     have e6 : IntKind.i64.wrap (q : Int) = (q : Int) := IntWalk.i64_in _ (by omega)
     go_simp
     exact ⟨rfl, Fr.refl _ _⟩
    case xb6 =>
     simp only [show u 3 = _ from hR 3 (by kernel_rfl), show u 5 = _ from hR 5 (by kernel_rfl), show u 2 = _ from hR 2 (by kernel_rfl)]
     cases P
     case false => exact skS (by kernel_rfl)
     refine .inl ⟨by kernel_rfl, ?_⟩
     have hk := of_decide_eq_true eP
     have e5 : A7 = some ad := (HXX.out hk).1
     have e6 : (q : Int) < (n7 : Int) := by have := HQ.out hk; have := LN.out; omega
     have e7 : (0 : Int) ≤ (q : Int) := by omega
     subst e5
     go_simp
     exact ⟨rfl, Fr.refl _ _⟩
    case' xb7 =>
     simp only [show u 6 = _ from hR 6 (by kernel_rfl), show u 2 = _ from hR 2 (by kernel_rfl)]
     cases P
     case false => exact skS (by kernel_rfl)
    case xb8 =>
     simp only [show u 7 = _ from hR 7 (by kernel_rfl), show u 2 = _ from hR 2 (by kernel_rfl)]
     cases P
     case false => exact skS (by kernel_rfl)
     refine .inl ⟨by kernel_rfl, ?_⟩
     exact wp_load_add _ _ rfl (ad.add (q * 6)) rfl last.cells _ (fun jj v hv => hf.cellSome ((HXX.out (of_decide_eq_true eP)).2 jj v hv) (fun x => x)) Tryd.underlying40 rfl infoN ⟨rfl, Fr.refl _ _⟩
    case xb9 =>
     simp only [show u 2 = _ from hR 2 (by kernel_rfl)]
     cases P
     case false => exact skS (by kernel_rfl)
     refine .inl ⟨by kernel_rfl, ?_⟩
     exact wp_load_add _ _ rfl ⟨gn, 0, none⟩ rfl m.1.cells _ (fun j x hx => by rw [Addr.add_mid, Nat.zero_add]; exact (NB5.out.fr hf (fun x => x)).cell j |>.trans (by rw [List.getElem?_toArray]; exact hx)) Tryd.underlying40 rfl infoN ⟨rfl, Fr.refl _ _⟩
    case xb10 =>
     simp only [show u 8 = _ from hR 8 (by kernel_rfl), show u 9 = _ from hR 9 (by kernel_rfl), show u 2 = _ from hR 2 (by kernel_rfl)]
     cases P
     case false => exact skS (by kernel_rfl)
     refine .inl ⟨by kernel_rfl, ?_⟩
     go_simp
     refine (CC.out _).mono ?_
     rintro e w4 ⟨rfl, f4⟩
     exact ⟨rfl, f4⟩
    case' xb11 =>
     simp only [show u 10 = _ from hR 10 (by kernel_rfl), show u 2 = _ from hR 2 (by kernel_rfl)]
     cases P
     case false => exact skS (by kernel_rfl)
    case xb12 =>
     simp only [show u 2 = _ from hR 2 (by kernel_rfl), show u 11 = _ from hR 11 (by kernel_rfl)]
     cases P <;> exact .inl ⟨by kernel_rfl, by go_simp; exact ⟨by rw [← HB.out]; rfl, Fr.refl _ _⟩⟩
    all_goals
     try simp only [cond]
     refine .inl ⟨by kernel_rfl, ?_⟩
     go_simp
     exact ⟨rfl, Fr.refl _ _⟩
   ·intro w' hf
    simp only [List.take_succ_cons, List.take_zero, List.map_cons, List.map_nil, puts, Act.put, List.setIfInBounds_toArray, List.set_cons_zero, List.set_cons_succ, List.drop_succ_cons, List.drop_zero, Nat.reduceAdd, Nat.zero_add, List.getD_cons_zero, List.getD_cons_succ]
    have F6 := Lib.hid (F5.out.trans hf)
    have KG6 := Lib.hid (KG5.out.behind hf)
    have NB6 := Lib.hid (NB5.out.fr hf (fun x => x))
    clear hf F5 KG5 NB5 CC HB eP eQ HXX
    have HB := Lib.hid HB'.out
    clear HB'
    cases hBB : B
    case true =>
     rw [hBB] at HB
     have HE : Hid (R = (32, [])) := by
      simp only [Hid]
      rw [← DE.out, decL_bad3 (by rw [E1.out]) (by rw [E1.out]; exact C1.out) (by rw [E1.out]; simp only; rw [HM.out]; exact of_decide_eq_true HB.out)]
     clear hBB
     go_wp2
     go_ret2
     rw [HE.out]
     exact ⟨_, rfl, F6.out, .inr ⟨by decide, rfl⟩⟩
    case false =>
     rw [hBB] at HB
     have C2 : Hid (¬ (0 < L.length ∧ cmpN m.1 last ≤ 0)) := of_decide_eq_false HB.out
     clear hBB HB
     have HZ2 : Hid ((pText 65536 (l.drop b)).2.1 ≤ (l.drop b).length ∧ b + (pText 65536 (l.drop b)).2.1 ≤ l.length) := by
      have h1 := pText_size 65536 (l.drop b)
      have h2 := HZ1.out.2
      rw [List.length_drop] at h1
      simp only [Hid, List.length_drop]
      omega
     have HBD : Hid ((pText 65536 (l.drop b)).2.2 ≠ 0 → R = ((pText 65536 (l.drop b)).2.2, [])) := fun h => by
      have h4 : (txD (txD (l.drop a, a, 0)).2).2.2.2 = (pText 65536 (l.drop b)).2.2 := by rw [E1.out]; exact txD_bad h
      rw [← DE.out, decL_bad4 (by rw [E1.out]) (by rw [E1.out]; exact C1.out) (by rw [E1.out]; simp only; rw [HM.out]; exact C2.out) (by rw [h4]; exact h), h4]
     have HOK2 : Hid ((pText 65536 (l.drop b)).2.2 = 0 → txD (l.drop b, b, 0) = ((pText 65536 (l.drop b)).1, (l.drop (b + (pText 65536 (l.drop b)).2.1), b + (pText 65536 (l.drop b)).2.1, 0))) := fun h => txD_ok h
     have CT := Lib.hid (HT.out w' b F6.out HZ1.out.2)
     unfold RText at CT
     generalize (pText 65536 (l.drop b)).2.1 = z2 at *
     generalize (pText 65536 (l.drop b)).2.2 = ev at *
     generalize (pText 65536 (l.drop b)).1 = vx at *
     obtain ⟨b2, hb2⟩ : ∃ b2 : Nat, b + z2 = b2 := ⟨_, rfl⟩
     have eb : (b : Int) + (z2 : Int) = (b2 : Int) := by omega
     rw [hb2] at HZ2 HOK2
     rw [eb] at CT
     clear eb hb2
     go_wp2_with fail
     refine CT.out.mono ?_
     rintro e W8 ⟨rfl, f8⟩
     have F8 := Lib.hid (F6.out.trans f8)
     have KG8 := Lib.hid (KG6.out.behind f8)
     have NB8 := Lib.hid (NB6.out.fr f8 (fun x => x))
     clear f8 CT KG6 F6 NB6
     by_cases c3 : ev = 0
     case neg =>
      have tb : (ev != 0) = true := by rw [bne_iff_ne]; exact c3
      have HE := Lib.hid (HBD.out c3)
      have HC0 := Lib.hid c3
      clear c3 HBD HOK2
      go_wp2
      go_ret2
      rw [HE.out]
      exact ⟨_, rfl, F8.out, .inr ⟨HC0.out, rfl⟩⟩
     subst c3
     have E2 := Lib.hid (HOK2.out rfl)
     clear HBD HOK2
     have NX : Hid (KInv (L ++ [(m.1, (⟨vx.toArray⟩ : ByteArray))]) m.1 (l.drop b2, b2, 0)) := by
      have h := DI.out.next (by rw [E1.out]; exact C1.out) (by rw [E1.out]; simp only; rw [HM.out]; exact C2.out) (by rw [E1.out]; simp only; rw [E2.out])
      rw [E1.out] at h
      simp only at h
      rw [E2.out, HM.out] at h
      exact h.1
     have HD2 : Hid (decL (N - k - 1) (l.drop b2, b2, 0) m.1 (L ++ [(m.1, (⟨vx.toArray⟩ : ByteArray))]) = R) := by
      simp only [Hid]
      rw [← DE.out, decL_next (by rw [E1.out]) (by rw [E1.out]; exact C1.out) (by rw [E1.out]; simp only; rw [HM.out]; exact C2.out) (by rw [E1.out]; simp only; rw [E2.out]), E1.out]
      simp only
      rw [E2.out, HM.out]
     have BE := Lib.hid (builtE m.1 (⟨vx.toArray⟩ : ByteArray))
     clear DE
     go_wp2_with (refine wpList_load_add rfl 40 (.tmp 12) rfl ⟨gn, 0, none⟩ rfl m.1.cells _ ?hcc1 Tryd.underlying40 rfl infoN (Held.go ?hold1))
     case hcc1 => exact fun j x hx => by rw [Addr.add_mid, Nat.zero_add]; exact NB8.out.cell j |>.trans (by rw [List.getElem?_toArray]; exact hx)
     unfold Held
     go_wp2_with (refine wpList_built rfl 54 _ rfl (entC (m.1, (⟨vx.toArray⟩ : ByteArray))).toArray _ (by simp only [List.map_toArray, List.map_cons, List.map_nil]; rfl) BE.out (Held.go ?holdb1))
     unfold Held
     refine wpList_buildSlice rfl 27 54 1 _ rfl (entC (m.1, (⟨vx.toArray⟩ : ByteArray))).toArray i0 entZ Tryd.underlying27 hi0 hz0' gc1.out gc2.out (by simp only [List.map_toArray, List.map_cons, List.map_nil]; exact FS.out _ _) ?_
     refine wpList_app1 _ rfl _ _ 27 rfl 54 i0 entZ 6 72 Tryd.underlying27 hi0 hz0' hz1 hz2 rfl (by decide) _ _ _ rfl KG8.out.own 1 (entC (m.1, (⟨vx.toArray⟩ : ByteArray))).toArray _ rfl rfl rfl (entC_one _) (by have := LK.out; omega) (by decide) ?_
     intro v9 w9 hG9
     have KH : Hid (Grew 54 6 w (.slice none 0 0) w9 v9 (L ++ [(m.1, (⟨vx.toArray⟩ : ByteArray))]).length ((L ++ [(m.1, (⟨vx.toArray⟩ : ByteArray))]).flatMap entC)) := by
      simp only [Hid]
      rw [List.length_append, List.flatMap_append, List.flatMap_singleton]
      exact KG8.out.trans hG9
     obtain ⟨A9, n9, c9, rfl, _, _⟩ := own_slice hG9.own
     clear hG9 KG8
     go_wp2
     go_roundw
     case rel =>
      refine ⟨k + 1, b2, m.1, _, by omega, rfl, by go_num, HZ2.out.2, ?_, NX.out, (fun e => by simp at e), ?_, KH.out⟩
      ·have := LK.out; simp; omega
      ·rw [show N - (k + 1) = N - k - 1 by omega]; exact HD2.out
     case measure => simp [intOf]; omega
  ·have t2 : decide ((k : Int) < (N : Int)) = false := decide_eq_false (by omega)
   have HE : Hid (R = (closeN (l.drop a, a, 0), L)) := by
    have h := DD.out
    rw [show N - k = 0 by omega, decL] at h
    exact h.symm
   clear DD
   by_cases ca : a < n
   ·have t3 : decide ((a : Int) < (n : Int)) = true := decide_eq_true (by omega)
    have HC : Hid (closeN (l.drop a, a, 0) = 5) := by
     simp only [Hid, closeN, if_true]
     rw [if_pos (by rw [List.length_drop, HLN.out]; omega)]
    go_wp2
    go_ret2
    rw [HE.out, HC.out]
    exact ⟨_, rfl, FW.out, .inr ⟨by simp, rfl⟩⟩
   ·have t3 : decide ((a : Int) < (n : Int)) = false := decide_eq_false (by omega)
    have HC : Hid (closeN (l.drop a, a, 0) = 0) := by
     simp only [Hid, closeN, if_true]
     rw [if_neg (by rw [List.length_drop, HLN.out]; omega)]
    go_wp2
    go_ret2
    rw [HE.out, HC.out]
    exact ⟨_, rfl, FW.out, .inl ⟨rfl, KG.out.own⟩⟩
end Go.Proofs.YtpnchdgplpdefaaDoor
namespace Go.Proofs.YtpnchdgplpdefaaDoor
open Go.RowKit Go.Shelf
theorem CL.one {w : World} {g : Nat} {t : TypeId} {c : CV} (h : Blk w g t c.cells.toArray) : CL w (fun _ => True) (some ⟨g, 0, none⟩) 1 [c] := by
 refine ⟨⟨rfl, fun _ => ⟨_, rfl, trivial, fun j y hy => ?_⟩⟩, rfl⟩
 rw [Addr.add_mid, Nat.zero_add, h.cell, List.getElem?_toArray]
 simpa using hy
theorem RApplied.one {w w' : World} {L : List Ent} {c : CV} {e : Ending} (h : RApplied w L [c] e w') : ∃ p k, e = .returned (.tuple #[p, .int .i64 k]) ∧ Fr Nothing w w' ∧
  ((okNm c.nm = true ∧ k = 0 ∧ RowE w' p (nextC c L)) ∨ (okNm c.nm = false ∧ k = 12 ∧ p = .slice none 0 0)) := by
 obtain ⟨p, k, he, hf, h1 | h1⟩ := h
 ·exact ⟨p, k, he, hf, .inl ⟨h1.1 c (List.mem_singleton.2 rfl), h1.2.1, h1.2.2⟩⟩
 ·obtain ⟨⟨x, hx, ho⟩, h2, h3⟩ := h1
  rw [List.mem_singleton] at hx
  subst hx
  exact ⟨p, k, he, hf, .inr ⟨ho, h2, h3⟩⟩
end Go.Proofs.YtpnchdgplpdefaaDoor
