/- State: the reference's Check (written by genSbF.py). -/
import Derived.Test.YtpnchdgplpdefaaGreatDoorEnSbE
import Derived.Test.YtpnchdgplpdefaaGreatDoorEnIs
namespace Go.Proofs.YtpnchdgplpdefaaGreatDoor
open Go.RowKit Go.Shelf
set_option maxRecDepth 100000 in
set_option maxHeartbeats 4000000 in
theorem rOwned_any (k : Nat) (u : Usa) (w : World) (hk : 1 ≤ k ∧ k ≤ 20) (hu : usaL[k]? = some u) : Calls Tryz.prog 66 #[.int .i64 (k : Int)] w (SameW w (.bool u.owner)) := by
 match k, hk with
 | 1, _ | 2, _ | 3, _ | 4, _ | 5, _ | 6, _ | 7, _ | 8, _ | 9, _ | 10, _ | 11, _ | 12, _ | 13, _ | 14, _ | 15, _ | 16, _ | 17, _ | 18, _ | 19, _ | 20, _ =>
  obtain rfl := Option.some.inj hu
  go_enter Tryz.func66, Tryz.ntmps66
  go_wp2
  go_ret
  exact ⟨rfl, rfl⟩
 | k + 21, h => omega
set_option maxRecDepth 100000 in
set_option maxHeartbeats 4000000 in
theorem rNumbered_any (k : Nat) (u : Usa) (w : World) (hk : 1 ≤ k ∧ k ≤ 20) (hu : usaL[k]? = some u) : Calls Tryz.prog 67 #[.int .i64 (k : Int)] w (SameW w (.bool u.number)) := by
 match k, hk with
 | 1, _ | 2, _ | 3, _ | 4, _ | 5, _ | 6, _ | 7, _ | 8, _ | 9, _ | 10, _ | 11, _ | 12, _ | 13, _ | 14, _ | 15, _ | 16, _ | 17, _ | 18, _ | 19, _ | 20, _ =>
  obtain rfl := Option.some.inj hu
  go_enter Tryz.func67, Tryz.ntmps67
  go_wp2
  go_ret
  exact ⟨rfl, rfl⟩
 | k + 21, h => omega
set_option maxRecDepth 100000 in
set_option maxHeartbeats 4000000 in
theorem rTexted_any (k : Nat) (u : Usa) (w : World) (hk : 1 ≤ k ∧ k ≤ 20) (hu : usaL[k]? = some u) : Calls Tryz.prog 69 #[.int .i64 (k : Int)] w (SameW w (.bool u.text)) := by
 match k, hk with
 | 1, _ | 2, _ | 3, _ | 4, _ | 5, _ | 6, _ | 7, _ | 8, _ | 9, _ | 10, _ | 11, _ | 12, _ | 13, _ | 14, _ | 15, _ | 16, _ | 17, _ | 18, _ | 19, _ | 20, _ =>
  obtain rfl := Option.some.inj hu
  go_enter Tryz.func69, Tryz.ntmps69
  go_wp2
  go_ret
  exact ⟨rfl, rfl⟩
 | k + 21, h => omega
set_option maxRecDepth 100000 in
set_option maxHeartbeats 4000000 in
theorem rMost_any (k : Nat) (u : Usa) (w : World) (hk : 1 ≤ k ∧ k ≤ 20) (hu : usaL[k]? = some u) : Calls Tryz.prog 68 #[.int .i64 (k : Int)] w (SameW w (.int .i64 (if u.index = true then u.most else -1))) := by
 match k, hk with
 | 1, _ | 2, _ | 3, _ | 4, _ | 5, _ | 6, _ | 7, _ | 8, _ | 9, _ | 10, _ | 11, _ | 12, _ | 13, _ | 14, _ | 15, _ | 16, _ | 17, _ | 18, _ | 19, _ | 20, _ =>
  obtain rfl := Option.some.inj hu
  go_enter Tryz.func68, Tryz.ntmps68
  go_wp2
  go_ret
  exact ⟨rfl, rfl⟩
 | k + 21, h => omega
set_option maxRecDepth 100000 in
set_option maxHeartbeats 2000000 in
theorem rWord_any (s : ByteArray) (w : World) (hs : s.size ≤ 1099511627776) : Calls Tryz.prog 91 #[.string s] w (SameW w (.bool (wordO s))) := by
 have HS := Lib.hid hs
 obtain ⟨R, hR⟩ : ∃ R, R = wordO s := ⟨_, rfl⟩
 rw [← hR]
 have HR : Hid (R = (!s.toList.isEmpty && decide (s.size ≤ 32) && s.toList.all wordB)) := hR
 have HAT : Hid (∀ i, i < s.size → ∃ b, ∃ h : i < s.size, s.toList[i]? = some b ∧ s[i] = b) := fun i hi => by
  have h2 : s.toList[i]? = some (s.toList[i]'(by rw [toList_size]; exact hi)) := List.getElem?_eq_getElem _
  obtain ⟨h3, h4⟩ := str_at h2
  exact ⟨_, h3, h2, h4⟩
 clear hR hs
 go_enter Tryz.func91, Tryz.ntmps91
 go_wp2
 go_loopw [3] (fun i wr => ∃ k : Nat, k ≤ s.size ∧ (∀ b ∈ s.toList.take k, wordB b = true) ∧ i = .int .i64 k ∧ w = wr) (fun i _ => s.size - (intOf i).toNat)
 case atStart => exact ⟨0, by omega, by simp, rfl, rfl⟩
 case round =>
  obtain ⟨k, hk, hall, rfl, rfl⟩ := hrel
  have HA := Lib.hid hall
  have nk : k ≤ 1099511627776 := by have := HS.out; omega
  clear hall
  by_cases hlt : k < s.size
  ·have hI : (k : Int) < (s.size : Int) := by omega
   have hI0 : (0 : Int) ≤ (k : Int) := by omega
   obtain ⟨b, h1, h2, h3⟩ := HAT.out k hlt
   have H2 := Lib.hid h2
   clear h2
   have hno : ∀ h : wordB b = false, R = false := fun h => by
    have : s.toList.all wordB = false := by
     rw [List.all_eq_false]
     exact ⟨b, List.mem_of_getElem? H2.out, by rw [h]; simp⟩
    rw [HR.out, this, Bool.and_false]
   have HNO := Lib.hid hno
   clear hno
   by_cases g1 : 33 ≤ b.toNat
   ·have u1 : decide ((b.toNat : Int) < 33) = false := decide_eq_false (by omega)
    have u1' : ¬ (b.toNat : Int) < 33 := by omega
    by_cases g2 : b.toNat ≤ 126
    ·have u2 : decide ((126 : Int) < (b.toNat : Int)) = false := decide_eq_false (by omega)
     have u2' : ¬ (126 : Int) < (b.toNat : Int) := by omega
     by_cases g3 : b.toNat = 47
     ·have u3 : ((b.toNat : Int) == 47) = true := by rw [beq_iff_eq]; omega
      obtain rfl : R = false := HNO.out (by simp [wordB, g3])
      clear g1 g2 g3
      go_wp2
      go_ret
      exact ⟨rfl, rfl⟩
     ·have u3 : ((b.toNat : Int) == 47) = false := by rw [beq_eq_false_iff_ne]; omega
      have HB : Hid (wordB b = true) := by simp [Hid, wordB, g1, g2, g3]
      clear g1 g2 g3 HNO
      go_wp2
      go_roundw
      case rel => exact ⟨k + 1, by omega, fun x hx => by
        rw [List.take_add_one, H2.out, Option.toList_some, List.mem_append, List.mem_singleton] at hx
        rcases hx with hx | rfl
        ·exact HA.out x hx
        ·exact HB.out, by go_num, trivial⟩
      case measure => simp [intOf]; omega
    ·have u2 : decide ((126 : Int) < (b.toNat : Int)) = true := decide_eq_true (by omega)
     have u2' : (126 : Int) < (b.toNat : Int) := by omega
     obtain rfl : R = false := HNO.out (by simp [wordB, g2])
     clear g1 g2
     go_wp2
     go_ret
     exact ⟨rfl, rfl⟩
   ·have u1 : decide ((b.toNat : Int) < 33) = true := decide_eq_true (by omega)
    have u1' : (b.toNat : Int) < 33 := by omega
    obtain rfl : R = false := HNO.out (by simp [wordB, g1])
    clear g1
    go_wp2
    go_ret
    exact ⟨rfl, rfl⟩
  ·obtain rfl : k = s.size := by omega
   have hall : s.toList.all wordB = true := by
    rw [List.all_eq_true]
    have h := HA.out
    rw [List.take_of_length_le (by rw [toList_size]; omega)] at h
    exact h
   have hR2 : R = (!s.toList.isEmpty && decide (s.size ≤ 32)) := by rw [HR.out, hall, Bool.and_true]
   clear hlt hall HR
   by_cases h0 : s.size = 0
   ·have he : s.toList.isEmpty = true := by
     rw [List.isEmpty_iff]
     exact List.length_eq_zero_iff.1 (by rw [toList_size]; exact h0)
    obtain rfl : R = false := by rw [hR2, he]; rfl
    have t1 : decide ((1 : Int) ≤ (s.size : Int)) = false := decide_eq_false (by omega)
    have t1' : ¬ (1 : Int) ≤ (s.size : Int) := by omega
    have t1'' : ¬ 1 ≤ s.size := by omega
    clear hR2 he
    go_wp2
    go_ret
    exact ⟨rfl, rfl⟩
   ·have he : s.toList.isEmpty = false := by
     rw [List.isEmpty_eq_false_iff]
     intro e
     have := congrArg List.length e
     rw [toList_size] at this
     exact h0 (by simpa using this)
    have t1 : decide ((1 : Int) ≤ (s.size : Int)) = true := decide_eq_true (by omega)
    have t1' : (1 : Int) ≤ (s.size : Int) := by omega
    have t1'' : 1 ≤ s.size := by omega
    by_cases h32 : s.size ≤ 32
    ·obtain rfl : R = true := by rw [hR2, he, decide_eq_true h32]; rfl
     have t2 : decide ((s.size : Int) ≤ 32) = true := decide_eq_true (by omega)
     clear hR2 he h0
     go_wp2
     go_ret
     exact ⟨rfl, rfl⟩
    ·obtain rfl : R = false := by rw [hR2, he, decide_eq_false h32]; rfl
     have t2 : decide ((s.size : Int) ≤ 32) = false := decide_eq_false (by omega)
     clear hR2 he h0
     go_wp2
     go_ret
     exact ⟨rfl, rfl⟩
theorem okUs_tests (wd : ByteArray) (bo bn bi bt : Bool) (mo k : Int) (ow tx : ByteArray) (nu ix : Int) (hm : 0 ≤ mo) (h0 : bi = false → mo = 0) :
  okUs ⟨wd, bo, bn, bi, bt, mo⟩ ⟨k, ow, nu, ix, tx⟩ = !(((!bo && !ow.toList.isEmpty) || (!bn && nu != 0) || (!bi && ix != 0) || (!bt && !tx.toList.isEmpty)) || (bo && !validO ow) || (decide (nu < 0) || decide (1073741824 < nu) || decide (ix < 0) || decide (mo < ix)) || (bt && !wordO tx)) := by
 have e : ∀ (x : Int) (m : Int), 0 ≤ m → (!decide (x < 0) && !decide (m < x)) = (decide (0 ≤ x) && decide (x ≤ m)) := fun x m _ => by
  rw [← decide_not, ← decide_not]
  congr 1 <;> exact decide_eq_decide.2 (by omega)
 have e0 : ∀ (x m : Int), 0 ≤ m → (x == 0) = true → (decide (0 ≤ x) && decide (x ≤ m)) = true := fun x m hm h => by
  rw [beq_iff_eq] at h
  subst h
  simpa using hm
 unfold okUs
 simp only [Bool.not_or, Bool.not_and, Bool.not_not, bne]
 have a1 := e nu 1073741824 (by decide)
 have a2 := e ix mo hm
 have b1 := e0 nu 1073741824 (by decide)
 have b2 := e0 ix mo hm
 generalize (decide (0 ≤ nu) && decide (nu ≤ 1073741824)) = c1 at *
 generalize (decide (0 ≤ ix) && decide (ix ≤ mo)) = c2 at *
 rw [Bool.and_assoc (!decide (nu < 0) && !decide (1073741824 < nu)), a1, a2]
 generalize (nu == 0) = d1 at *
 generalize (ix == 0) = d2 at *
 generalize validO ow = v
 generalize wordO tx = x
 generalize ow.toList.isEmpty = y1
 generalize tx.toList.isEmpty = y2
 cases bo <;> cases bn <;> cases bi <;> cases bt <;> cases d1 <;> cases d2 <;> simp_all [Bool.and_assoc]
set_option maxRecDepth 100000 in
set_option maxHeartbeats 8000000 in
theorem rCheck_all (k : Nat) (ow : ByteArray) (nu ix : Int) (tx wd : ByteArray) (bo bn bi bt : Bool) (mo : Int) (w : World) (hk : 1 ≤ k ∧ k ≤ 20) (hu : usaL[k]? = some ⟨wd, bo, bn, bi, bt, mo⟩) (ho : ow.size ≤ 1099511627776) (ht : tx.size ≤ 1099511627776) (hmo : 0 ≤ mo) (hm0 : bi = false → mo = 0) :
  Calls Tryz.prog 65 #[.agg #[.int .i64 (k : Int), .string ow, .int .i64 nu, .int .i64 ix, .string tx]] w (Checked w ⟨(k : Int), ow, nu, ix, tx⟩) := by
 have HOK : Hid (okNm ⟨(k : Int), ow, nu, ix, tx⟩ = okUs ⟨wd, bo, bn, bi, bt, mo⟩ ⟨(k : Int), ow, nu, ix, tx⟩) := by
  simp only [Hid, okNm, Int.toNat_natCast, hu]
  rw [decide_eq_true (show (1 : Int) ≤ (k : Int) by omega), decide_eq_true (show (k : Int) ≤ 20 by omega)]
  rfl
 have HALG := Lib.hid (okUs_tests wd bo bn bi bt mo k ow tx nu ix hmo hm0)
 have CO : Hid (∀ w, Calls Tryz.prog 66 #[.int .i64 (k : Int)] w (SameW w (.bool bo))) := fun w => rOwned_any k _ w hk hu
 have CN : Hid (∀ w, Calls Tryz.prog 67 #[.int .i64 (k : Int)] w (SameW w (.bool bn))) := fun w => rNumbered_any k _ w hk hu
 have CT : Hid (∀ w, Calls Tryz.prog 69 #[.int .i64 (k : Int)] w (SameW w (.bool bt))) := fun w => rTexted_any k _ w hk hu
 obtain ⟨mq, hmq⟩ : ∃ mq : Int, mq = (if bi = true then mo else -1) := ⟨_, rfl⟩
 have CM : Hid (∀ w, Calls Tryz.prog 68 #[.int .i64 (k : Int)] w (SameW w (.int .i64 mq))) := fun w => by rw [hmq]; exact rMost_any k _ w hk hu
 have HMX : Hid (max mq 0 = mo) := by
  simp only [Hid]
  cases bi
  ·have := hm0 rfl; rw [hmq, this]; rfl
  ·rw [hmq, if_pos rfl]; omega
 have tq : decide (mq < 0) = !bi := by
  cases bi
  ·rw [hmq]; rfl
  ·rw [hmq, if_pos rfl]; exact decide_eq_false (by omega)
 obtain ⟨va, hva⟩ : ∃ va, validO ow = va := ⟨_, rfl⟩
 obtain ⟨wo, hwo⟩ : ∃ wo, wordO tx = wo := ⟨_, rfl⟩
 have CV : Hid (∀ w, Calls Tryz.prog 90 #[.string ow] w (Same' w (.bool va))) := fun w => by rw [← hva]; exact rValid_any ow w ho
 have CW : Hid (∀ w, Calls Tryz.prog 91 #[.string tx] w (Same' w (.bool wo))) := fun w => by rw [← hwo]; exact (rWord_any tx w ht).mono (fun _ _ h => ⟨h.1, by rw [h.2]; exact Fr.refl _ _⟩)
 rw [hva, hwo] at HALG
 obtain ⟨x1, e1⟩ : ∃ x1 : Bool, ow.toList.isEmpty = !x1 := ⟨!ow.toList.isEmpty, by simp⟩
 obtain ⟨x4, e4⟩ : ∃ x4 : Bool, tx.toList.isEmpty = !x4 := ⟨!tx.toList.isEmpty, by simp⟩
 obtain ⟨x2, e2⟩ : ∃ x2 : Bool, (nu != 0) = x2 := ⟨_, rfl⟩
 obtain ⟨x3, e3⟩ : ∃ x3 : Bool, (ix != 0) = x3 := ⟨_, rfl⟩
 obtain ⟨p1, q1⟩ : ∃ z : Bool, decide (nu < 0) = z := ⟨_, rfl⟩
 obtain ⟨p2, q2⟩ : ∃ z : Bool, decide (1073741824 < nu) = z := ⟨_, rfl⟩
 obtain ⟨p3, q3⟩ : ∃ z : Bool, decide (ix < 0) = z := ⟨_, rfl⟩
 obtain ⟨p4, q4⟩ : ∃ z : Bool, decide (mo < ix) = z := ⟨_, rfl⟩
 rw [e1, e2, e3, e4, q1, q2, q3, q4, Bool.not_not, Bool.not_not] at HALG
 have k1 : decide ((k : Int) < 1) = false := decide_eq_false (by omega)
 have k1' : ¬ (k : Int) < 1 := by omega
 have k2 : decide ((20 : Int) < (k : Int)) = false := decide_eq_false (by omega)
 have k2' : ¬ (20 : Int) < (k : Int) := by omega
 clear hk hu ho ht hmq hmo hm0 hva hwo
 go_enter Tryz.func65, Tryz.ntmps65
 go_wp2_with (refine wpList_boxBlk rfl 57 (.tmp 0) rfl #[.int .i64 (k : Int), .string ow, .int .i64 nu, .int .i64 ix, .string tx] rfl ?_)
 intro w1 n1
 have FF := Lib.hid n1.fr
 have c0 : w1.cell? ⟨w.heap.size, 0, none⟩ = some (.int .i64 (k : Int)) := n1.blk.cell 0
 have N1 : Hid (w1.cell? ⟨w.heap.size, 1, none⟩ = some (.string ow)) := n1.blk.cell 1
 have N2 : Hid (w1.cell? ⟨w.heap.size, 2, none⟩ = some (.int .i64 nu)) := n1.blk.cell 2
 have N3 : Hid (w1.cell? ⟨w.heap.size, 3, none⟩ = some (.int .i64 ix)) := n1.blk.cell 3
 have N4 : Hid (w1.cell? ⟨w.heap.size, 4, none⟩ = some (.string tx)) := n1.blk.cell 4
 clear n1
 generalize w.heap.size = gb at *
 go_upto_region 4 with fail
 clear c0
 obtain ⟨A, hA⟩ : ∃ z : Bool, (bif bo then false else x1) = z := ⟨_, rfl⟩
 have HA := Lib.hid hA
 clear hA
 obtain ⟨B, hB⟩ : ∃ z : Bool, (bif A then true else (bif bn then false else x2)) = z := ⟨_, rfl⟩
 have HB := Lib.hid hB
 clear hB
 obtain ⟨C, hC⟩ : ∃ z : Bool, (bif B then true else (bif bi then false else x3)) = z := ⟨_, rfl⟩
 have HC := Lib.hid hC
 clear hC
 obtain ⟨D, hD⟩ : ∃ z : Bool, (bif C then true else (bif bt then false else x4)) = z := ⟨_, rfl⟩
 have HD := Lib.hid hD
 clear hD
 refine wq_is 39 [.int .i64 (k : Int), .bool bo, .bool (!bo), .bool (!bo), bif bo then undef else .pointer (some ⟨gb, 1, none⟩), bif bo then undef else .string ow, bif bo then undef else .bool x1, bif bo then .bool false else .bool x1, .bool A, bif A then undef else .int .i64 (k : Int), bif A then undef else .bool bn, bif A then undef else .bool (!bn), bif A then undef else .bool (!bn), bif A then undef else (bif bn then undef else .pointer (some ⟨gb, 2, none⟩)), bif A then undef else (bif bn then undef else .int .i64 nu), bif A then undef else (bif bn then undef else .bool x2), bif A then undef else (bif bn then .bool false else .bool x2), bif A then .bool true else (bif bn then .bool false else .bool x2), .bool B, bif B then undef else .int .i64 (k : Int), bif B then undef else .int .i64 mq, bif B then undef else .bool (!bi), bif B then undef else .bool (!bi), bif B then undef else (bif bi then undef else .pointer (some ⟨gb, 3, none⟩)), bif B then undef else (bif bi then undef else .int .i64 ix), bif B then undef else (bif bi then undef else .bool x3), bif B then undef else (bif bi then .bool false else .bool x3), bif B then .bool true else (bif bi then .bool false else .bool x3), .bool C, bif C then undef else .int .i64 (k : Int), bif C then undef else .bool bt, bif C then undef else .bool (!bt), bif C then undef else .bool (!bt), bif C then undef else (bif bt then undef else .pointer (some ⟨gb, 4, none⟩)), bif C then undef else (bif bt then undef else .string tx), bif C then undef else (bif bt then undef else .bool x4), bif C then undef else (bif bt then .bool false else .bool x4), bif C then .bool true else (bif bt then .bool false else .bool x4), .bool D] ?hxb ?_
 case hxb =>
  refine ⟨?xb0, ?xb1, ?xb2, ?xb3, ?xb4, ?xb5, ?xb6, ?xb7, ?xb8, ?xb9, ?xb10, ?xb11, ?xb12, ?xb13, ?xb14, ?xb15, ?xb16, ?xb17, ?xb18, ?xb19, ?xb20, ?xb21, ?xb22, ?xb23, ?xb24, ?xb25, ?xb26, ?xb27, ?xb28, ?xb29, ?xb30, ?xb31, ?xb32, ?xb33, ?xb34, ?xb35, ?xb36, ?xb37, ?xb38, trivial⟩
  all_goals intro u w' hf hR
  all_goals simp only [z1, z2, z3, z4, puts, Act.put, z5, z6, z7, Nat.reduceAdd, Nat.zero_add]
  case xb1 =>
   simp only [show u 0 = _ from hR 0]
   refine goS ?_
   go_simp
   refine (CO.out _).mono ?_
   rintro e w9 ⟨rfl, rfl⟩
   exact ⟨rfl, Fr.refl _ _⟩
  case' xb2 => simp only [show u 1 = _ from hR 1]
  case' xb3 => simp only [show u 2 = _ from hR 2]
  case' xb4 =>
   simp only [show u 3 = _ from hR 3]
   cases bo
   case true => exact skS
  case xb5 =>
   simp only [show u 4 = _ from hR 4, show u 3 = _ from hR 3]
   cases bo
   case true => exact skS
   refine goS ?_
   have q := hf.cellSome N1.out (fun x => x)
   go_simp
   exact ⟨rfl, Fr.refl _ _⟩
  case' xb6 =>
   simp only [show u 5 = _ from hR 5, show u 3 = _ from hR 3]
   cases bo
   case true => exact skS
  case' xb7 =>
   simp only [show u 3 = _ from hR 3, show u 6 = _ from hR 6]
   cases bo
  case xb8 =>
   simp only [show u 7 = _ from hR 7]
   cases bo <;> exact goS (by go_simp; exact ⟨by rw [← HA.out]; rfl, Fr.refl _ _⟩)
  case' xb9 =>
   simp only [show u 8 = _ from hR 8]
   cases A
   case true => exact skS
  case xb10 =>
   simp only [show u 9 = _ from hR 9, show u 8 = _ from hR 8]
   cases A
   case true => exact skS
   refine goS ?_
   go_simp
   refine (CN.out _).mono ?_
   rintro e w9 ⟨rfl, rfl⟩
   exact ⟨rfl, Fr.refl _ _⟩
  case' xb11 =>
   simp only [show u 10 = _ from hR 10, show u 8 = _ from hR 8]
   cases A
   case true => exact skS
  case' xb12 =>
   simp only [show u 11 = _ from hR 11, show u 8 = _ from hR 8]
   cases A
   case true => exact skS
  case' xb13 =>
   simp only [show u 12 = _ from hR 12]
   cases A
   case true => exact skS
   cases bn
   case true => exact skS
  case xb14 =>
   simp only [show u 13 = _ from hR 13, show u 12 = _ from hR 12]
   cases A
   case true => exact skS
   cases bn
   case true => exact skS
   refine goS ?_
   have q := hf.cellSome N2.out (fun x => x)
   go_simp
   exact ⟨rfl, Fr.refl _ _⟩
  case' xb15 =>
   simp only [show u 14 = _ from hR 14, show u 12 = _ from hR 12]
   cases A
   case true => exact skS
   cases bn
   case true => exact skS
  case' xb16 =>
   simp only [show u 12 = _ from hR 12, show u 15 = _ from hR 15, show u 8 = _ from hR 8]
   cases A
   case true => exact skS
   cases bn
  case' xb17 =>
   simp only [show u 8 = _ from hR 8, show u 16 = _ from hR 16]
   cases A <;> cases bn
  case xb18 =>
   simp only [show u 17 = _ from hR 17]
   cases A <;> cases bn <;> exact goS (by go_simp; exact ⟨by rw [← HB.out]; rfl, Fr.refl _ _⟩)
  case' xb19 =>
   simp only [show u 18 = _ from hR 18]
   cases B
   case true => exact skS
  case xb20 =>
   simp only [show u 19 = _ from hR 19, show u 18 = _ from hR 18]
   cases B
   case true => exact skS
   refine goS ?_
   go_simp
   refine (CM.out _).mono ?_
   rintro e w9 ⟨rfl, rfl⟩
   exact ⟨rfl, Fr.refl _ _⟩
  case' xb21 =>
   simp only [show u 20 = _ from hR 20, show u 18 = _ from hR 18]
   cases B
   case true => exact skS
  case' xb22 =>
   simp only [show u 21 = _ from hR 21, show u 18 = _ from hR 18]
   cases B
   case true => exact skS
  case' xb23 =>
   simp only [show u 22 = _ from hR 22]
   cases B
   case true => exact skS
   cases bi
   case true => exact skS
  case xb24 =>
   simp only [show u 23 = _ from hR 23, show u 22 = _ from hR 22]
   cases B
   case true => exact skS
   cases bi
   case true => exact skS
   refine goS ?_
   have q := hf.cellSome N3.out (fun x => x)
   go_simp
   exact ⟨rfl, Fr.refl _ _⟩
  case' xb25 =>
   simp only [show u 24 = _ from hR 24, show u 22 = _ from hR 22]
   cases B
   case true => exact skS
   cases bi
   case true => exact skS
  case' xb26 =>
   simp only [show u 22 = _ from hR 22, show u 25 = _ from hR 25, show u 18 = _ from hR 18]
   cases B
   case true => exact skS
   cases bi
  case' xb27 =>
   simp only [show u 18 = _ from hR 18, show u 26 = _ from hR 26]
   cases B <;> cases bi
  case xb28 =>
   simp only [show u 27 = _ from hR 27]
   cases B <;> cases bi <;> exact goS (by go_simp; exact ⟨by rw [← HC.out]; rfl, Fr.refl _ _⟩)
  case' xb29 =>
   simp only [show u 28 = _ from hR 28]
   cases C
   case true => exact skS
  case xb30 =>
   simp only [show u 29 = _ from hR 29, show u 28 = _ from hR 28]
   cases C
   case true => exact skS
   refine goS ?_
   go_simp
   refine (CT.out _).mono ?_
   rintro e w9 ⟨rfl, rfl⟩
   exact ⟨rfl, Fr.refl _ _⟩
  case' xb31 =>
   simp only [show u 30 = _ from hR 30, show u 28 = _ from hR 28]
   cases C
   case true => exact skS
  case' xb32 =>
   simp only [show u 31 = _ from hR 31, show u 28 = _ from hR 28]
   cases C
   case true => exact skS
  case' xb33 =>
   simp only [show u 32 = _ from hR 32]
   cases C
   case true => exact skS
   cases bt
   case true => exact skS
  case xb34 =>
   simp only [show u 33 = _ from hR 33, show u 32 = _ from hR 32]
   cases C
   case true => exact skS
   cases bt
   case true => exact skS
   refine goS ?_
   have q := hf.cellSome N4.out (fun x => x)
   go_simp
   exact ⟨rfl, Fr.refl _ _⟩
  case' xb35 =>
   simp only [show u 34 = _ from hR 34, show u 32 = _ from hR 32]
   cases C
   case true => exact skS
   cases bt
   case true => exact skS
  case' xb36 =>
   simp only [show u 32 = _ from hR 32, show u 35 = _ from hR 35, show u 28 = _ from hR 28]
   cases C
   case true => exact skS
   cases bt
  case' xb37 =>
   simp only [show u 28 = _ from hR 28, show u 36 = _ from hR 36]
   cases C <;> cases bt
  case xb38 =>
   simp only [show u 37 = _ from hR 37]
   cases C <;> cases bt <;> exact goS (by go_simp; exact ⟨by rw [← HD.out]; rfl, Fr.refl _ _⟩)
  all_goals
   try simp only [cond]
   refine goS ?_
   go_simp
   exact ⟨rfl, Fr.refl _ _⟩
 intro w' hf
 simp only [z1, z2, z3, z4, puts, Act.put, z5, z6, z7, z8, z9, z10, z11, Nat.reduceAdd, Nat.zero_add]
 have FF := Lib.hid (FF.out.trans hf)
 have N1 := Lib.hid (hf.cellSome N1.out (fun x => x))
 have N2 := Lib.hid (hf.cellSome N2.out (fun x => x))
 have N3 := Lib.hid (hf.cellSome N3.out (fun x => x))
 have N4 := Lib.hid (hf.cellSome N4.out (fun x => x))
 clear hf
 generalize w' = w1 at *
 have VD : Hid (((!bo && x1) || (!bn && x2) || (!bi && x3) || (!bt && x4)) = D) := by
  rw [Hid, ← HD.out, ← HC.out, ← HB.out, ← HA.out]
  cases bo <;> cases bn <;> cases bi <;> cases bt <;> simp
 clear HD HA HB HC
 cases vD : D
 case true =>
  rw [vD] at VD
  clear vD
  go_wp2
  go_ret
  refine ⟨_, rfl, ?_, FF.out⟩
  rw [HOK.out, HALG.out, VD.out]
  simp
 rw [vD] at VD
 clear vD
 go_upto_region 6 with fail
 obtain ⟨E, hE⟩ : ∃ z : Bool, (bif bo then (!va) else false) = z := ⟨_, rfl⟩
 have HE := Lib.hid hE
 clear hE
 refine wq_is 9 [.int .i64 (k : Int), .bool bo, .bool bo, bif bo then .pointer (some ⟨gb, 1, none⟩) else undef, bif bo then .string ow else undef, bif bo then .bool va else undef, bif bo then .bool (!va) else undef, bif bo then .bool (!va) else .bool false, .bool E] ?hxc ?_
 case hxc =>
  refine ⟨?xc0, ?xc1, ?xc2, ?xc3, ?xc4, ?xc5, ?xc6, ?xc7, ?xc8, trivial⟩
  all_goals intro u w' hf hR
  all_goals simp only [z1, z2, z3, z4, puts, Act.put, z5, z6, z7, Nat.reduceAdd, Nat.zero_add]
  case xc1 =>
   simp only [show u 0 = _ from hR 0]
   refine goS ?_
   go_simp
   refine (CO.out _).mono ?_
   rintro e w9 ⟨rfl, rfl⟩
   exact ⟨rfl, Fr.refl _ _⟩
  case' xc2 => simp only [show u 1 = _ from hR 1]
  case' xc3 =>
   simp only [show u 2 = _ from hR 2]
   cases bo
   case false => exact skS
  case xc4 =>
   simp only [show u 3 = _ from hR 3, show u 2 = _ from hR 2]
   cases bo
   case false => exact skS
   refine goS ?_
   have q := hf.cellSome N1.out (fun x => x)
   go_simp
   exact ⟨rfl, Fr.refl _ _⟩
  case xc5 =>
   simp only [show u 4 = _ from hR 4, show u 2 = _ from hR 2]
   cases bo
   case false => exact skS
   refine goS ?_
   go_simp
   refine (CV.out _).mono ?_
   rintro e w9 ⟨rfl, f9⟩
   exact ⟨rfl, f9⟩
  case' xc6 =>
   simp only [show u 5 = _ from hR 5, show u 2 = _ from hR 2]
   cases bo
   case false => exact skS
  case' xc7 =>
   simp only [show u 2 = _ from hR 2, show u 6 = _ from hR 6]
   cases bo
  case xc8 =>
   simp only [show u 7 = _ from hR 7]
   cases bo <;> exact goS (by go_simp; exact ⟨by rw [← HE.out]; rfl, Fr.refl _ _⟩)
  all_goals
   try simp only [cond]
   refine goS ?_
   go_simp
   exact ⟨rfl, Fr.refl _ _⟩
 intro w' hf
 simp only [z1, z2, z3, z4, puts, Act.put, z5, z6, z7, z8, z9, z10, z11, Nat.reduceAdd, Nat.zero_add]
 have FF := Lib.hid (FF.out.trans hf)
 have N1 := Lib.hid (hf.cellSome N1.out (fun x => x))
 have N2 := Lib.hid (hf.cellSome N2.out (fun x => x))
 have N3 := Lib.hid (hf.cellSome N3.out (fun x => x))
 have N4 := Lib.hid (hf.cellSome N4.out (fun x => x))
 clear hf
 generalize w' = w1 at *
 have VE : Hid ((bo && !va) = E) := by
  rw [Hid, ← HE.out]
  cases bo <;> simp
 clear HE
 cases vE : E
 case true =>
  rw [vE] at VE
  clear vE
  go_wp2
  go_ret
  refine ⟨_, rfl, ?_, FF.out⟩
  rw [HOK.out, HALG.out, VE.out]
  simp
 rw [vE] at VE
 clear vE
 go_upto_region 8 with fail
 obtain ⟨G1, hG1⟩ : ∃ z : Bool, (bif p1 then true else p2) = z := ⟨_, rfl⟩
 have HG1 := Lib.hid hG1
 clear hG1
 obtain ⟨G2, hG2⟩ : ∃ z : Bool, (bif G1 then true else p3) = z := ⟨_, rfl⟩
 have HG2 := Lib.hid hG2
 clear hG2
 obtain ⟨G, hG⟩ : ∃ z : Bool, (bif G2 then true else p4) = z := ⟨_, rfl⟩
 have HG := Lib.hid hG
 clear hG
 refine wp_is 22 [.pointer (some ⟨gb, 2, none⟩), .int .i64 nu, .bool p1, .bool p1, bif p1 then undef else .pointer (some ⟨gb, 2, none⟩), bif p1 then undef else .int .i64 nu, bif p1 then undef else .bool p2, bif p1 then .bool true else .bool p2, .bool G1, bif G1 then undef else .pointer (some ⟨gb, 3, none⟩), bif G1 then undef else .int .i64 ix, bif G1 then undef else .bool p3, bif G1 then .bool true else .bool p3, .bool G2, bif G2 then undef else .pointer (some ⟨gb, 3, none⟩), bif G2 then undef else .int .i64 ix, bif G2 then undef else .int .i64 (k : Int), bif G2 then undef else .int .i64 mq, bif G2 then undef else .int .i64 mo, bif G2 then undef else .bool p4, bif G2 then .bool true else .bool p4, .bool G] ?hxd ?_
 case hxd =>
  refine ⟨?xd0, ?xd1, ?xd2, ?xd3, ?xd4, ?xd5, ?xd6, ?xd7, ?xd8, ?xd9, ?xd10, ?xd11, ?xd12, ?xd13, ?xd14, ?xd15, ?xd16, ?xd17, ?xd18, ?xd19, ?xd20, ?xd21, trivial⟩
  all_goals intro u w' hf hR
  all_goals simp only [z1, z2, z3, z4, puts, Act.put, z5, z6, z7, Nat.reduceAdd, Nat.zero_add]
  case xd1 =>
   simp only [show u 0 = _ from hR 0]
   refine goS ?_
   have q := hf.cellSome N2.out (fun x => x)
   go_simp
   exact ⟨rfl, Fr.refl _ _⟩
  case' xd2 => simp only [show u 1 = _ from hR 1]
  case' xd3 => simp only [show u 2 = _ from hR 2]
  case' xd4 =>
   simp only [show u 3 = _ from hR 3]
   cases p1
   case true => exact skS
  case xd5 =>
   simp only [show u 4 = _ from hR 4, show u 3 = _ from hR 3]
   cases p1
   case true => exact skS
   refine goS ?_
   have q := hf.cellSome N2.out (fun x => x)
   go_simp
   exact ⟨rfl, Fr.refl _ _⟩
  case' xd6 =>
   simp only [show u 5 = _ from hR 5, show u 3 = _ from hR 3]
   cases p1
   case true => exact skS
  case' xd7 =>
   simp only [show u 3 = _ from hR 3, show u 6 = _ from hR 6]
   cases p1
  case xd8 =>
   simp only [show u 7 = _ from hR 7]
   cases p1 <;> exact goS (by go_simp; exact ⟨by rw [← HG1.out]; rfl, Fr.refl _ _⟩)
  case' xd9 =>
   simp only [show u 8 = _ from hR 8]
   cases G1
   case true => exact skS
  case xd10 =>
   simp only [show u 9 = _ from hR 9, show u 8 = _ from hR 8]
   cases G1
   case true => exact skS
   refine goS ?_
   have q := hf.cellSome N3.out (fun x => x)
   go_simp
   exact ⟨rfl, Fr.refl _ _⟩
  case' xd11 =>
   simp only [show u 10 = _ from hR 10, show u 8 = _ from hR 8]
   cases G1
   case true => exact skS
  case' xd12 =>
   simp only [show u 8 = _ from hR 8, show u 11 = _ from hR 11]
   cases G1
  case xd13 =>
   simp only [show u 12 = _ from hR 12]
   cases G1 <;> exact goS (by go_simp; exact ⟨by rw [← HG2.out]; rfl, Fr.refl _ _⟩)
  case' xd14 =>
   simp only [show u 13 = _ from hR 13]
   cases G2
   case true => exact skS
  case xd15 =>
   simp only [show u 14 = _ from hR 14, show u 13 = _ from hR 13]
   cases G2
   case true => exact skS
   refine goS ?_
   have q := hf.cellSome N3.out (fun x => x)
   go_simp
   exact ⟨rfl, Fr.refl _ _⟩
  case' xd16 =>
   simp only [show u 13 = _ from hR 13]
   cases G2
   case true => exact skS
  case xd17 =>
   simp only [show u 16 = _ from hR 16, show u 13 = _ from hR 13]
   cases G2
   case true => exact skS
   refine goS ?_
   go_simp
   refine (CM.out _).mono ?_
   rintro e w9 ⟨rfl, rfl⟩
   exact ⟨rfl, Fr.refl _ _⟩
  case xd18 =>
   simp only [show u 17 = _ from hR 17, show u 13 = _ from hR 13]
   cases G2
   case true => exact skS
   refine goS ?_
   have q := HMX.out
   go_simp
   exact ⟨rfl, Fr.refl _ _⟩
  case' xd19 =>
   simp only [show u 15 = _ from hR 15, show u 18 = _ from hR 18, show u 13 = _ from hR 13]
   cases G2
   case true => exact skS
  case' xd20 =>
   simp only [show u 13 = _ from hR 13, show u 19 = _ from hR 19]
   cases G2
  case xd21 =>
   simp only [show u 20 = _ from hR 20]
   cases G2 <;> exact goS (by go_simp; exact ⟨by rw [← HG.out]; rfl, Fr.refl _ _⟩)
  all_goals
   try simp only [cond]
   refine goS ?_
   go_simp
   exact ⟨rfl, Fr.refl _ _⟩
 intro w' hf
 simp only [z1, z2, z3, z4, puts, Act.put, z5, z6, z7, z8, z9, z10, z11, Nat.reduceAdd, Nat.zero_add]
 have FF := Lib.hid (FF.out.trans hf)
 have N1 := Lib.hid (hf.cellSome N1.out (fun x => x))
 have N2 := Lib.hid (hf.cellSome N2.out (fun x => x))
 have N3 := Lib.hid (hf.cellSome N3.out (fun x => x))
 have N4 := Lib.hid (hf.cellSome N4.out (fun x => x))
 clear hf
 generalize w' = w1 at *
 have VG : Hid ((p1 || p2 || p3 || p4) = G) := by
  rw [Hid, ← HG.out, ← HG2.out, ← HG1.out]
  cases p1 <;> cases p2 <;> cases p3 <;> simp
 clear HG HG1 HG2
 cases vG : G
 case true =>
  rw [vG] at VG
  clear vG
  go_wp2
  go_ret
  refine ⟨_, rfl, ?_, FF.out⟩
  rw [HOK.out, HALG.out, VG.out]
  simp
 rw [vG] at VG
 clear vG
 go_upto_region 10 with fail
 obtain ⟨H, hH⟩ : ∃ z : Bool, (bif bt then (!wo) else false) = z := ⟨_, rfl⟩
 have HH := Lib.hid hH
 clear hH
 refine wq_is 9 [.int .i64 (k : Int), .bool bt, .bool bt, bif bt then .pointer (some ⟨gb, 4, none⟩) else undef, bif bt then .string tx else undef, bif bt then .bool wo else undef, bif bt then .bool (!wo) else undef, bif bt then .bool (!wo) else .bool false, .bool H] ?hxe ?_
 case hxe =>
  refine ⟨?xe0, ?xe1, ?xe2, ?xe3, ?xe4, ?xe5, ?xe6, ?xe7, ?xe8, trivial⟩
  all_goals intro u w' hf hR
  all_goals simp only [z1, z2, z3, z4, puts, Act.put, z5, z6, z7, Nat.reduceAdd, Nat.zero_add]
  case xe1 =>
   simp only [show u 0 = _ from hR 0]
   refine goS ?_
   go_simp
   refine (CT.out _).mono ?_
   rintro e w9 ⟨rfl, rfl⟩
   exact ⟨rfl, Fr.refl _ _⟩
  case' xe2 => simp only [show u 1 = _ from hR 1]
  case' xe3 =>
   simp only [show u 2 = _ from hR 2]
   cases bt
   case false => exact skS
  case xe4 =>
   simp only [show u 3 = _ from hR 3, show u 2 = _ from hR 2]
   cases bt
   case false => exact skS
   refine goS ?_
   have q := hf.cellSome N4.out (fun x => x)
   go_simp
   exact ⟨rfl, Fr.refl _ _⟩
  case xe5 =>
   simp only [show u 4 = _ from hR 4, show u 2 = _ from hR 2]
   cases bt
   case false => exact skS
   refine goS ?_
   go_simp
   refine (CW.out _).mono ?_
   rintro e w9 ⟨rfl, f9⟩
   exact ⟨rfl, f9⟩
  case' xe6 =>
   simp only [show u 5 = _ from hR 5, show u 2 = _ from hR 2]
   cases bt
   case false => exact skS
  case' xe7 =>
   simp only [show u 2 = _ from hR 2, show u 6 = _ from hR 6]
   cases bt
  case xe8 =>
   simp only [show u 7 = _ from hR 7]
   cases bt <;> exact goS (by go_simp; exact ⟨by rw [← HH.out]; rfl, Fr.refl _ _⟩)
  all_goals
   try simp only [cond]
   refine goS ?_
   go_simp
   exact ⟨rfl, Fr.refl _ _⟩
 intro w' hf
 simp only [z1, z2, z3, z4, puts, Act.put, z5, z6, z7, z8, z9, z10, z11, Nat.reduceAdd, Nat.zero_add]
 have FF := Lib.hid (FF.out.trans hf)
 have N1 := Lib.hid (hf.cellSome N1.out (fun x => x))
 have N2 := Lib.hid (hf.cellSome N2.out (fun x => x))
 have N3 := Lib.hid (hf.cellSome N3.out (fun x => x))
 have N4 := Lib.hid (hf.cellSome N4.out (fun x => x))
 clear hf
 generalize w' = w1 at *
 have VH : Hid ((bt && !wo) = H) := by
  rw [Hid, ← HH.out]
  cases bt <;> simp
 clear HH
 cases vH : H
 case true =>
  rw [vH] at VH
  clear vH
  go_wp2
  go_ret
  refine ⟨_, rfl, ?_, FF.out⟩
  rw [HOK.out, HALG.out, VH.out]
  simp
 rw [vH] at VH
 clear vH
 go_wp2
 go_ret
 refine ⟨_, rfl, ?_, FF.out⟩
 rw [HOK.out, HALG.out, VD.out, VE.out, VG.out, VH.out]
 rfl
theorem usa_most {k : Nat} {u : Usa} (hu : usaL[k]? = some u) : 0 ≤ u.most ∧ (u.index = false → u.most = 0) := by
 have h : ∀ u ∈ usaL, 0 ≤ u.most ∧ (u.index = false → u.most = 0) := by decide
 exact h u (List.mem_of_getElem? hu)
theorem rCheck_any (n : NameV) (w : World) (ho : n.owner.size ≤ 1099511627776) (ht : n.text.size ≤ 1099511627776) : Calls Tryz.prog 65 #[.agg n.cells.toArray] w (Checked w n) := by
 obtain ⟨kd, ow, nu, ix, tx⟩ := n
 simp only at ho ht
 by_cases hk : 1 ≤ kd ∧ kd ≤ 20
 ·obtain ⟨k, rfl⟩ : ∃ k : Nat, kd = (k : Int) := ⟨kd.toNat, by omega⟩
  have hk' : 1 ≤ k ∧ k ≤ 20 := by omega
  have hl : usaL.length = 21 := by decide
  obtain ⟨u, hu⟩ : ∃ u, usaL[k]? = some u := ⟨_, List.getElem?_eq_getElem (show k < usaL.length by omega)⟩
  have hm := usa_most hu
  obtain ⟨wd, bo, bn, bi, bt, mo⟩ := u
  exact rCheck_all k ow nu ix tx wd bo bn bi bt mo w hk' hu ho ht hm.1 hm.2
 ·have hf : (decide (1 ≤ kd) && decide (kd ≤ 20)) = false := by
   rw [Bool.and_eq_false_iff, decide_eq_false_iff_not, decide_eq_false_iff_not]
   omega
  have HOK : Hid (okNm ⟨kd, ow, nu, ix, tx⟩ = false) := by
   simp only [Hid, okNm]
   rw [hf]
   rfl
  clear ho ht hf
  by_cases h1 : kd < 1
  ·have t1 : decide (kd < 1) = true := decide_eq_true h1
   clear hk
   go_enter Tryz.func65, Tryz.ntmps65
   go_wp2_with (refine wpList_boxBlk rfl 57 (.tmp 0) rfl #[.int .i64 kd, .string ow, .int .i64 nu, .int .i64 ix, .string tx] rfl ?_)
   intro w1 n1
   have F1 := Lib.hid n1.fr
   have c0 : w1.cell? ⟨w.heap.size, 0, none⟩ = some (.int .i64 kd) := n1.blk.cell 0
   clear n1
   go_wp2
   go_ret
   exact ⟨11, rfl, by rw [HOK.out]; rfl, F1.out⟩
  ·have t1 : decide (kd < 1) = false := decide_eq_false h1
   have h2 : 20 < kd := by omega
   have t2 : decide (20 < kd) = true := decide_eq_true h2
   clear hk
   go_enter Tryz.func65, Tryz.ntmps65
   go_wp2_with (refine wpList_boxBlk rfl 57 (.tmp 0) rfl #[.int .i64 kd, .string ow, .int .i64 nu, .int .i64 ix, .string tx] rfl ?_)
   intro w1 n1
   have F1 := Lib.hid n1.fr
   have c0 : w1.cell? ⟨w.heap.size, 0, none⟩ = some (.int .i64 kd) := n1.blk.cell 0
   clear n1
   go_wp2
   go_ret
   exact ⟨11, rfl, by rw [HOK.out]; rfl, F1.out⟩
end Go.Proofs.YtpnchdgplpdefaaGreatDoor
