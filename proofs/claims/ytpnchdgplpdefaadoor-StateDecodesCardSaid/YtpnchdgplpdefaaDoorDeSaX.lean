/- State: Check of any name (written by genSaX.py). -/
import Derived.Test.YtpnchdgplpdefaaDoorDeSaW
namespace Go.Proofs.YtpnchdgplpdefaaDoor
open Go.RowKit Go.Shelf
theorem within_any (a m : Int) (w : World) : Calls Tryd.prog 56 #[.int .i64 a, .int .i64 m] w (SameW w (.bool (decide (0 ≤ a) && decide (a ≤ m)))) := by
 by_cases h1 : 0 ≤ a
 ·have t1 : decide (0 ≤ a) = true := decide_eq_true h1
  rw [t1]
  go_enter Tryd.func56, Tryd.ntmps56
  go_wp2
  go_ret
  exact ⟨by simp, rfl⟩
 ·have t1 : decide (0 ≤ a) = false := decide_eq_false h1
  rw [t1]
  go_enter Tryd.func56, Tryd.ntmps56
  go_wp2
  go_ret
  exact ⟨rfl, rfl⟩
theorem isKind_any (a : Int) (w : World) : Calls Tryd.prog 54 #[.int .i64 a] w (SameW w (.bool (decide (1 ≤ a) && decide (a ≤ 20)))) := by
 by_cases h1 : 1 ≤ a
 ·have t1 : decide (1 ≤ a) = true := decide_eq_true h1
  rw [t1]
  go_enter Tryd.func54, Tryd.ntmps54
  go_wp2
  go_ret
  exact ⟨by simp, rfl⟩
 ·have t1 : decide (1 ≤ a) = false := decide_eq_false h1
  rw [t1]
  go_enter Tryd.func54, Tryd.ntmps54
  go_wp2
  go_ret
  exact ⟨rfl, rfl⟩
def wordB (b : UInt8) : Bool := decide (33 ≤ b.toNat) && decide (b.toNat ≤ 126) && !(b.toNat == 47)
def wordO (s : ByteArray) : Bool := !s.toList.isEmpty && decide (s.size ≤ 32) && s.toList.all wordB
set_option maxRecDepth 100000 in
set_option maxHeartbeats 2000000 in
theorem Word_any (s : ByteArray) (w : World) (hs : s.size ≤ 1099511627776) : Calls Tryd.prog 57 #[.string s] w (SameW w (.bool (wordO s))) := by
 cases he : s.toList.isEmpty
 ·by_cases hl : s.size ≤ 32
  ·have t1 : decide (32 < (s.size : Int)) = false := decide_eq_false (by omega)
   have HE := Lib.hid he
   have HL := Lib.hid hl
   obtain ⟨R, hR⟩ : ∃ R, R = wordO s := ⟨_, rfl⟩
   rw [← hR]
   have HR : Hid (R = s.toList.all wordB) := by simp only [Hid]; rw [hR, wordO, he, decide_eq_true hl]; rfl
   have HAT : Hid (∀ i, i < s.size → ∃ b, ∃ h : i < s.size, s.toList[i]? = some b ∧ s[i] = b) := fun i hi => by
    have h2 : s.toList[i]? = some (s.toList[i]'(by rw [toList_size]; exact hi)) := List.getElem?_eq_getElem _
    obtain ⟨h3, h4⟩ := str_at h2
    exact ⟨_, h3, h2, h4⟩
   clear hl hR
   go_enter Tryd.func57, Tryd.ntmps57
   go_wp2
   go_loopw [13] (fun i wr => ∃ k : Nat, k ≤ s.size ∧ (∀ b ∈ s.toList.take k, wordB b = true) ∧ i = .int .i64 k ∧ w = wr) (fun i _ => s.size - (intOf i).toNat)
   case atStart => exact ⟨0, by omega, by simp, rfl, rfl⟩
   case round =>
    obtain ⟨k, hk, hall, rfl, rfl⟩ := hrel
    have HA := Lib.hid hall
    clear hall
    by_cases hlt : k < s.size
    ·have hI : (k : Int) < (s.size : Int) := by omega
     have hI0 : (0 : Int) ≤ (k : Int) := by omega
     obtain ⟨b, h1, h2, h3⟩ := HAT.out k hlt
     have H2 := Lib.hid h2
     clear h2
     have hno : ∀ h : wordB b = false, R = false := fun h => by
      rw [HR.out, List.all_eq_false]
      exact ⟨b, List.mem_of_getElem? H2.out, by rw [h]; simp⟩
     have HNO := Lib.hid hno
     clear hno
     by_cases g1 : 33 ≤ b.toNat
     ·have u1 : decide ((b.toNat : Int) < 33) = false := decide_eq_false (by omega)
      have u1' : ¬ (b.toNat : Int) < 33 := by omega
      by_cases g2 : b.toNat ≤ 126
      ·have u2 : decide ((126 : Int) < (b.toNat : Int)) = false := decide_eq_false (by omega)
       have u2' : ¬ (126 : Int) < (b.toNat : Int) := by omega
       by_cases g3 : b.toNat = 47
       ·have u3 : ((b.toNat : Int) == 47) = true := by rw [beq_iff_eq]; omega
        obtain rfl : R = false := HNO.out (by simp [wordB, g3])
        clear g1 g2 g3
        go_wp2
        go_ret
        exact ⟨rfl, rfl⟩
       ·have u3 : ((b.toNat : Int) == 47) = false := by rw [beq_eq_false_iff_ne]; omega
        have HB : Hid (wordB b = true) := by simp [Hid, wordB, g1, g2, g3]
        clear g1 g2 g3 HNO
        go_wp2
        go_roundw
        case rel => exact ⟨k + 1, by omega, fun x hx => by
          rw [List.take_add_one, H2.out, Option.toList_some, List.mem_append, List.mem_singleton] at hx
          rcases hx with hx | rfl
          ·exact HA.out x hx
          ·exact HB.out, by go_num, trivial⟩
        case measure => simp [intOf]; omega
      ·have u2 : decide ((126 : Int) < (b.toNat : Int)) = true := decide_eq_true (by omega)
       have u2' : (126 : Int) < (b.toNat : Int) := by omega
       obtain rfl : R = false := HNO.out (by simp [wordB, g2])
       clear g1 g2
       go_wp2
       go_ret
       exact ⟨rfl, rfl⟩
     ·have u1 : decide ((b.toNat : Int) < 33) = true := decide_eq_true (by omega)
      have u1' : (b.toNat : Int) < 33 := by omega
      obtain rfl : R = false := HNO.out (by simp [wordB, g1])
      clear g1
      go_wp2
      go_ret
      exact ⟨rfl, rfl⟩
    ·obtain rfl : k = s.size := by omega
     have hI : ¬ (s.size : Int) < (s.size : Int) := by omega
     obtain rfl : R = true := by
      rw [HR.out, List.all_eq_true]
      have h := HA.out
      rw [List.take_of_length_le (by rw [toList_size]; omega)] at h
      exact h
     go_wp2
     go_ret
     exact ⟨rfl, rfl⟩
  ·have t1 : decide (32 < (s.size : Int)) = true := decide_eq_true (by omega)
   have HR : Hid (wordO s = false) := by simp [Hid, wordO, hl]
   rw [HR.out]
   clear hl
   go_enter Tryd.func57, Tryd.ntmps57
   go_wp2
   go_ret
   exact ⟨rfl, rfl⟩
 ·have HR : Hid (wordO s = false) := by simp [Hid, wordO, he]
  rw [HR.out]
  go_enter Tryd.func57, Tryd.ntmps57
  go_wp2
  go_ret
  exact ⟨rfl, rfl⟩
def okUs (u : Usa) (n : NameV) : Bool := (u.owner || n.owner.toList.isEmpty) && (u.number || n.number == 0) && (u.index || n.index == 0) && (u.text || n.text.toList.isEmpty) && (!u.owner || validO n.owner) &&
 (!u.number || (decide (0 ≤ n.number) && decide (n.number ≤ 1073741824))) && (!u.index || (decide (0 ≤ n.index) && decide (n.index ≤ u.most))) && (!u.text || wordO n.text)
def okNm (n : NameV) : Bool := decide (1 ≤ n.kind) && decide (n.kind ≤ 20) && (match usaL[n.kind.toNat]? with | some u => okUs u n | none => false)
def Checked (w : World) (n : NameV) (e : Ending) (w' : World) : Prop := ∃ k : Int, e = .returned (.int .i64 k) ∧ (k == 0) = okNm n ∧ Fr Nothing w w'
theorem Usa.one (u : Usa) : u.cells.toArray.all (·.oneCell') = true := by simp [Usa.cells, Value.oneCell']
set_option maxRecDepth 100000 in
set_option maxHeartbeats 4000000 in
theorem Check_1000 (k : Nat) (ow : ByteArray) (nu ix : Int) (tx wd : ByteArray) (mo : Int) (w : World) (hU : UsaT w) (hk : 1 ≤ k ∧ k ≤ 20) (hu : usaL[k]? = some ⟨wd, true, false, false, false, mo⟩) (ho : ow.size ≤ 1099511627776) (ht : tx.size ≤ 1099511627776) :
  Calls Tryd.prog 30 #[.agg #[.int .i64 (k : Int), .string ow, .int .i64 nu, .int .i64 ix, .string tx]] w (Checked w ⟨(k : Int), ow, nu, ix, tx⟩) := by
 have HOK : Hid (okNm ⟨(k : Int), ow, nu, ix, tx⟩ = okUs ⟨wd, true, false, false, false, mo⟩ ⟨(k : Int), ow, nu, ix, tx⟩) := by
  simp only [Hid, okNm, Int.toNat_natCast, hu]
  rw [decide_eq_true (show (1 : Int) ≤ (k : Int) by omega), decide_eq_true (show (k : Int) ≤ 20 by omega)]
  rfl
 have HOW := Lib.hid ho
 have HTX := Lib.hid ht
 have UC : Hid (∀ j v, (Usa.cells ⟨wd, true, false, false, false, mo⟩)[j]? = some v → w.cell? ⟨0, k * 6 + j, none⟩ = some v) := hU.row k _ hu
 have IC : Hid ((Tryd.prog.info? 110).map (·.size) = some (Usa.cells ⟨wd, true, false, false, false, mo⟩).length) := infoUsage
 have IC2 : Hid ((Tryd.prog.info? 110).map (·.size) = some (Usa.cells ⟨wd, true, false, false, false, mo⟩).toArray.size) := infoUsage
 have O1 := Lib.hid (Usa.one ⟨wd, true, false, false, false, mo⟩)
 obtain ⟨UL, hUL⟩ : ∃ UL, UL = Usa.cells ⟨wd, true, false, false, false, mo⟩ := ⟨_, rfl⟩
 have HUL := Lib.hid hUL
 rw [← hUL] at UC IC IC2 O1
 have KI : Hid (∀ w, Calls Tryd.prog 54 #[.int .i64 (k : Int)] w (SameW w (.bool true))) := fun w => by
  have h := isKind_any (k : Int) w
  rw [decide_eq_true (show (1 : Int) ≤ (k : Int) by omega), decide_eq_true (show (k : Int) ≤ 20 by omega)] at h
  exact h
 have k1 : (k : Int) < 21 := by omega
 have k2 : k < 21 := by omega
 have k3 : (0 : Int) ≤ (k : Int) := by omega
 clear hU hk hu ho ht hUL
 go_enter Tryd.func30, Tryd.ntmps30
 go_wp2_with (refine wpList_boxBlk rfl 36 (.tmp 0) rfl #[.int .i64 (k : Int), .string ow, .int .i64 nu, .int .i64 ix, .string tx] rfl ?_)
 intro w1 n1
 have F1 := Lib.hid n1.fr
 have NB0 := Lib.hid n1.blk
 clear n1
 generalize w.heap.size = gb at *
 have NB : Hid (Blk w1 gb 36 #[.int .i64 (k : Int), .string ow, .int .i64 nu, .int .i64 ix, .string tx]) := NB0.out
 clear NB0
 have c0 : w1.cell? ⟨gb, 0, none⟩ = some (.int .i64 (k : Int)) := NB.out.cell 0
 go_wp2_with fail
 refine (KI.out _).mono ?_
 rintro e w' ⟨rfl, rfl⟩
 go_wp2_with (refine wpList_load_add rfl 110 (.tmp 10) rfl ⟨0, k * 6, none⟩ rfl UL _ ?hcc Tryd.underlying110 rfl IC.out (Held.go ?hold))
 case hcc => exact fun j x hx => by rw [Addr.add_mid]; exact F1.out.cellSome (UC.out j x hx) (fun x => x)
 unfold Held
 go_wp2_with (refine wpList_allocBlk rfl 110 rfl usaZ zvUsage #[.string ByteArray.empty, .bool false, .bool false, .bool false, .bool false, .int .i64 0] rfl ?_)
 intro w2 n2
 have N2 := Lib.hid n2
 clear n2
 generalize hgu : w1.heap.size = gu at *
 have HGU := Lib.hid hgu
 clear hgu
 have U2 : Hid (Blk w2 gu 110 #[.string ByteArray.empty, .bool false, .bool false, .bool false, .bool false, .int .i64 0]) := by have h := N2.out.blk; rw [HGU.out] at h; exact h
 go_wp2_with (refine wpList_storeBlk rfl 110 (.tmp 3) _ rfl gu UL.toArray rfl rfl _ _ U2.out IC2.out (by rw [HUL.out]; rfl) O1.out ?_)
 intro w3 b3 f3
 have B3 : Hid (Blk w3 gu 110 (Usa.cells ⟨wd, true, false, false, false, mo⟩).toArray) := by rw [← HUL.out]; exact b3
 have F13 : Hid (Fr Nothing w1 w3) := N2.out.fr.then_ f3 (fun i hi e => by have e' : i = gu := e; have := HGU.out; omega)
 have F3 := Lib.hid (F1.out.trans F13.out)
 have u1 : w3.cell? ⟨gu, 1, none⟩ = some (.bool true) := B3.out.cell 1
 have u2 : w3.cell? ⟨gu, 2, none⟩ = some (.bool false) := B3.out.cell 2
 have u3 : w3.cell? ⟨gu, 3, none⟩ = some (.bool false) := B3.out.cell 3
 have u4 : w3.cell? ⟨gu, 4, none⟩ = some (.bool false) := B3.out.cell 4
 have u5 : w3.cell? ⟨gu, 5, none⟩ = some (.int .i64 mo) := B3.out.cell 5
 have NB3 := Lib.hid (NB.out.fr F13.out (fun x => x))
 have n1 : w3.cell? ⟨gb, 1, none⟩ = some (.string ow) := NB3.out.cell 1
 have n2 : w3.cell? ⟨gb, 2, none⟩ = some (.int .i64 nu) := NB3.out.cell 2
 have n3 : w3.cell? ⟨gb, 3, none⟩ = some (.int .i64 ix) := NB3.out.cell 3
 have n4 : w3.cell? ⟨gb, 4, none⟩ = some (.string tx) := NB3.out.cell 4
 clear b3 f3 N2 HGU U2 F13 c0 NB F1 UC IC IC2 O1 HUL
 have CB := Lib.hid (Fr.refl Nothing w3)
 by_cases e_nu : nu = 0
 ·have He_nu := Lib.hid e_nu
  have t_e_nu := beq0 e_nu
  clear e_nu
  by_cases e_ix : ix = 0
  ·have He_ix := Lib.hid e_ix
   have t_e_ix := beq0 e_ix
   clear e_ix
   cases e_tx : tx.toList.isEmpty
   ·have He_tx := Lib.hid e_tx
    go_wp2
    go_ret
    refine ⟨_, rfl, ?_, F3.out⟩
    rw [HOK.out]
    simp [okUs, He_tx.out]
   ·have He_tx := Lib.hid e_tx
    have K1 := Lib.hid (Valid_any ow w3 HOW.out)
    obtain ⟨v1, hv1⟩ : ∃ v1, validO ow = v1 := ⟨_, rfl⟩
    have Hv1 := Lib.hid hv1
    rw [hv1] at K1
    clear hv1
    go_wp2_with fail
    refine K1.out.mono ?_
    rintro e w4 ⟨rfl, f4⟩
    have F4 := Lib.hid (F3.out.trans f4)
    have u1' : w4.cell? ⟨gu, 1, none⟩ = some (.bool true) := f4.cellSome u1 (fun x => x)
    have u2' : w4.cell? ⟨gu, 2, none⟩ = some (.bool false) := f4.cellSome u2 (fun x => x)
    have u3' : w4.cell? ⟨gu, 3, none⟩ = some (.bool false) := f4.cellSome u3 (fun x => x)
    have u4' : w4.cell? ⟨gu, 4, none⟩ = some (.bool false) := f4.cellSome u4 (fun x => x)
    have u5' : w4.cell? ⟨gu, 5, none⟩ = some (.int .i64 mo) := f4.cellSome u5 (fun x => x)
    have n1' : w4.cell? ⟨gb, 1, none⟩ = some (.string ow) := f4.cellSome n1 (fun x => x)
    have n2' : w4.cell? ⟨gb, 2, none⟩ = some (.int .i64 nu) := f4.cellSome n2 (fun x => x)
    have n3' : w4.cell? ⟨gb, 3, none⟩ = some (.int .i64 ix) := f4.cellSome n3 (fun x => x)
    have n4' : w4.cell? ⟨gb, 4, none⟩ = some (.string tx) := f4.cellSome n4 (fun x => x)
    clear f4 u1 u2 u3 u4 u5 n1 n2 n3 n4
    cases v1
    ·go_wp2
     go_ret
     refine ⟨_, rfl, ?_, F4.out⟩
     rw [HOK.out]
     have hh := Hv1.out
     simp [okUs, hh]
    ·go_wp2
     go_ret
     refine ⟨_, rfl, ?_, F4.out⟩
     rw [HOK.out]
     simp [okUs, He_nu.out, He_ix.out, He_tx.out, Hv1.out]
  ·have He_ix := Lib.hid e_ix
   have t_e_ix := bne0 e_ix
   clear e_ix
   go_wp2
   go_ret
   refine ⟨_, rfl, ?_, F3.out⟩
   rw [HOK.out]
   simp [okUs, He_ix.out]
 ·have He_nu := Lib.hid e_nu
  have t_e_nu := bne0 e_nu
  clear e_nu
  go_wp2
  go_ret
  refine ⟨_, rfl, ?_, F3.out⟩
  rw [HOK.out]
  simp [okUs, He_nu.out]
set_option maxRecDepth 100000 in
set_option maxHeartbeats 4000000 in
theorem Check_1010 (k : Nat) (ow : ByteArray) (nu ix : Int) (tx wd : ByteArray) (mo : Int) (w : World) (hU : UsaT w) (hk : 1 ≤ k ∧ k ≤ 20) (hu : usaL[k]? = some ⟨wd, true, false, true, false, mo⟩) (ho : ow.size ≤ 1099511627776) (ht : tx.size ≤ 1099511627776) :
  Calls Tryd.prog 30 #[.agg #[.int .i64 (k : Int), .string ow, .int .i64 nu, .int .i64 ix, .string tx]] w (Checked w ⟨(k : Int), ow, nu, ix, tx⟩) := by
 have HOK : Hid (okNm ⟨(k : Int), ow, nu, ix, tx⟩ = okUs ⟨wd, true, false, true, false, mo⟩ ⟨(k : Int), ow, nu, ix, tx⟩) := by
  simp only [Hid, okNm, Int.toNat_natCast, hu]
  rw [decide_eq_true (show (1 : Int) ≤ (k : Int) by omega), decide_eq_true (show (k : Int) ≤ 20 by omega)]
  rfl
 have HOW := Lib.hid ho
 have HTX := Lib.hid ht
 have UC : Hid (∀ j v, (Usa.cells ⟨wd, true, false, true, false, mo⟩)[j]? = some v → w.cell? ⟨0, k * 6 + j, none⟩ = some v) := hU.row k _ hu
 have IC : Hid ((Tryd.prog.info? 110).map (·.size) = some (Usa.cells ⟨wd, true, false, true, false, mo⟩).length) := infoUsage
 have IC2 : Hid ((Tryd.prog.info? 110).map (·.size) = some (Usa.cells ⟨wd, true, false, true, false, mo⟩).toArray.size) := infoUsage
 have O1 := Lib.hid (Usa.one ⟨wd, true, false, true, false, mo⟩)
 obtain ⟨UL, hUL⟩ : ∃ UL, UL = Usa.cells ⟨wd, true, false, true, false, mo⟩ := ⟨_, rfl⟩
 have HUL := Lib.hid hUL
 rw [← hUL] at UC IC IC2 O1
 have KI : Hid (∀ w, Calls Tryd.prog 54 #[.int .i64 (k : Int)] w (SameW w (.bool true))) := fun w => by
  have h := isKind_any (k : Int) w
  rw [decide_eq_true (show (1 : Int) ≤ (k : Int) by omega), decide_eq_true (show (k : Int) ≤ 20 by omega)] at h
  exact h
 have k1 : (k : Int) < 21 := by omega
 have k2 : k < 21 := by omega
 have k3 : (0 : Int) ≤ (k : Int) := by omega
 clear hU hk hu ho ht hUL
 go_enter Tryd.func30, Tryd.ntmps30
 go_wp2_with (refine wpList_boxBlk rfl 36 (.tmp 0) rfl #[.int .i64 (k : Int), .string ow, .int .i64 nu, .int .i64 ix, .string tx] rfl ?_)
 intro w1 n1
 have F1 := Lib.hid n1.fr
 have NB0 := Lib.hid n1.blk
 clear n1
 generalize w.heap.size = gb at *
 have NB : Hid (Blk w1 gb 36 #[.int .i64 (k : Int), .string ow, .int .i64 nu, .int .i64 ix, .string tx]) := NB0.out
 clear NB0
 have c0 : w1.cell? ⟨gb, 0, none⟩ = some (.int .i64 (k : Int)) := NB.out.cell 0
 go_wp2_with fail
 refine (KI.out _).mono ?_
 rintro e w' ⟨rfl, rfl⟩
 go_wp2_with (refine wpList_load_add rfl 110 (.tmp 10) rfl ⟨0, k * 6, none⟩ rfl UL _ ?hcc Tryd.underlying110 rfl IC.out (Held.go ?hold))
 case hcc => exact fun j x hx => by rw [Addr.add_mid]; exact F1.out.cellSome (UC.out j x hx) (fun x => x)
 unfold Held
 go_wp2_with (refine wpList_allocBlk rfl 110 rfl usaZ zvUsage #[.string ByteArray.empty, .bool false, .bool false, .bool false, .bool false, .int .i64 0] rfl ?_)
 intro w2 n2
 have N2 := Lib.hid n2
 clear n2
 generalize hgu : w1.heap.size = gu at *
 have HGU := Lib.hid hgu
 clear hgu
 have U2 : Hid (Blk w2 gu 110 #[.string ByteArray.empty, .bool false, .bool false, .bool false, .bool false, .int .i64 0]) := by have h := N2.out.blk; rw [HGU.out] at h; exact h
 go_wp2_with (refine wpList_storeBlk rfl 110 (.tmp 3) _ rfl gu UL.toArray rfl rfl _ _ U2.out IC2.out (by rw [HUL.out]; rfl) O1.out ?_)
 intro w3 b3 f3
 have B3 : Hid (Blk w3 gu 110 (Usa.cells ⟨wd, true, false, true, false, mo⟩).toArray) := by rw [← HUL.out]; exact b3
 have F13 : Hid (Fr Nothing w1 w3) := N2.out.fr.then_ f3 (fun i hi e => by have e' : i = gu := e; have := HGU.out; omega)
 have F3 := Lib.hid (F1.out.trans F13.out)
 have u1 : w3.cell? ⟨gu, 1, none⟩ = some (.bool true) := B3.out.cell 1
 have u2 : w3.cell? ⟨gu, 2, none⟩ = some (.bool false) := B3.out.cell 2
 have u3 : w3.cell? ⟨gu, 3, none⟩ = some (.bool true) := B3.out.cell 3
 have u4 : w3.cell? ⟨gu, 4, none⟩ = some (.bool false) := B3.out.cell 4
 have u5 : w3.cell? ⟨gu, 5, none⟩ = some (.int .i64 mo) := B3.out.cell 5
 have NB3 := Lib.hid (NB.out.fr F13.out (fun x => x))
 have n1 : w3.cell? ⟨gb, 1, none⟩ = some (.string ow) := NB3.out.cell 1
 have n2 : w3.cell? ⟨gb, 2, none⟩ = some (.int .i64 nu) := NB3.out.cell 2
 have n3 : w3.cell? ⟨gb, 3, none⟩ = some (.int .i64 ix) := NB3.out.cell 3
 have n4 : w3.cell? ⟨gb, 4, none⟩ = some (.string tx) := NB3.out.cell 4
 clear b3 f3 N2 HGU U2 F13 c0 NB F1 UC IC IC2 O1 HUL
 have CB := Lib.hid (Fr.refl Nothing w3)
 by_cases e_nu : nu = 0
 ·have He_nu := Lib.hid e_nu
  have t_e_nu := beq0 e_nu
  clear e_nu
  cases e_tx : tx.toList.isEmpty
  ·have He_tx := Lib.hid e_tx
   go_wp2
   go_ret
   refine ⟨_, rfl, ?_, F3.out⟩
   rw [HOK.out]
   simp [okUs, He_tx.out]
  ·have He_tx := Lib.hid e_tx
   have K1 := Lib.hid (Valid_any ow w3 HOW.out)
   obtain ⟨v1, hv1⟩ : ∃ v1, validO ow = v1 := ⟨_, rfl⟩
   have Hv1 := Lib.hid hv1
   rw [hv1] at K1
   clear hv1
   go_wp2_with fail
   refine K1.out.mono ?_
   rintro e w4 ⟨rfl, f4⟩
   have F4 := Lib.hid (F3.out.trans f4)
   have u1' : w4.cell? ⟨gu, 1, none⟩ = some (.bool true) := f4.cellSome u1 (fun x => x)
   have u2' : w4.cell? ⟨gu, 2, none⟩ = some (.bool false) := f4.cellSome u2 (fun x => x)
   have u3' : w4.cell? ⟨gu, 3, none⟩ = some (.bool true) := f4.cellSome u3 (fun x => x)
   have u4' : w4.cell? ⟨gu, 4, none⟩ = some (.bool false) := f4.cellSome u4 (fun x => x)
   have u5' : w4.cell? ⟨gu, 5, none⟩ = some (.int .i64 mo) := f4.cellSome u5 (fun x => x)
   have n1' : w4.cell? ⟨gb, 1, none⟩ = some (.string ow) := f4.cellSome n1 (fun x => x)
   have n2' : w4.cell? ⟨gb, 2, none⟩ = some (.int .i64 nu) := f4.cellSome n2 (fun x => x)
   have n3' : w4.cell? ⟨gb, 3, none⟩ = some (.int .i64 ix) := f4.cellSome n3 (fun x => x)
   have n4' : w4.cell? ⟨gb, 4, none⟩ = some (.string tx) := f4.cellSome n4 (fun x => x)
   clear f4 u1 u2 u3 u4 u5 n1 n2 n3 n4
   cases v1
   ·go_wp2
    go_ret
    refine ⟨_, rfl, ?_, F4.out⟩
    rw [HOK.out]
    have hh := Hv1.out
    simp [okUs, hh]
   ·have K2 := Lib.hid (within_any ix mo w4)
    obtain ⟨v2, hv2⟩ : ∃ v2, (decide (0 ≤ ix) && decide (ix ≤ mo)) = v2 := ⟨_, rfl⟩
    have Hv2 := Lib.hid hv2
    rw [hv2] at K2
    clear hv2
    go_wp2_with fail
    refine K2.out.mono ?_
    rintro e w5 ⟨rfl, rfl⟩
    cases v2
    ·go_wp2
     go_ret
     refine ⟨_, rfl, ?_, F4.out⟩
     rw [HOK.out]
     have hh := Hv2.out
     rw [okUs]; simp only [hh]; simp
    ·go_wp2
     go_ret
     refine ⟨_, rfl, ?_, F4.out⟩
     rw [HOK.out]
     simp [okUs, He_nu.out, He_tx.out, Hv1.out, Hv2.out]
 ·have He_nu := Lib.hid e_nu
  have t_e_nu := bne0 e_nu
  clear e_nu
  go_wp2
  go_ret
  refine ⟨_, rfl, ?_, F3.out⟩
  rw [HOK.out]
  simp [okUs, He_nu.out]
set_option maxRecDepth 100000 in
set_option maxHeartbeats 4000000 in
theorem Check_1100 (k : Nat) (ow : ByteArray) (nu ix : Int) (tx wd : ByteArray) (mo : Int) (w : World) (hU : UsaT w) (hk : 1 ≤ k ∧ k ≤ 20) (hu : usaL[k]? = some ⟨wd, true, true, false, false, mo⟩) (ho : ow.size ≤ 1099511627776) (ht : tx.size ≤ 1099511627776) :
  Calls Tryd.prog 30 #[.agg #[.int .i64 (k : Int), .string ow, .int .i64 nu, .int .i64 ix, .string tx]] w (Checked w ⟨(k : Int), ow, nu, ix, tx⟩) := by
 have HOK : Hid (okNm ⟨(k : Int), ow, nu, ix, tx⟩ = okUs ⟨wd, true, true, false, false, mo⟩ ⟨(k : Int), ow, nu, ix, tx⟩) := by
  simp only [Hid, okNm, Int.toNat_natCast, hu]
  rw [decide_eq_true (show (1 : Int) ≤ (k : Int) by omega), decide_eq_true (show (k : Int) ≤ 20 by omega)]
  rfl
 have HOW := Lib.hid ho
 have HTX := Lib.hid ht
 have UC : Hid (∀ j v, (Usa.cells ⟨wd, true, true, false, false, mo⟩)[j]? = some v → w.cell? ⟨0, k * 6 + j, none⟩ = some v) := hU.row k _ hu
 have IC : Hid ((Tryd.prog.info? 110).map (·.size) = some (Usa.cells ⟨wd, true, true, false, false, mo⟩).length) := infoUsage
 have IC2 : Hid ((Tryd.prog.info? 110).map (·.size) = some (Usa.cells ⟨wd, true, true, false, false, mo⟩).toArray.size) := infoUsage
 have O1 := Lib.hid (Usa.one ⟨wd, true, true, false, false, mo⟩)
 obtain ⟨UL, hUL⟩ : ∃ UL, UL = Usa.cells ⟨wd, true, true, false, false, mo⟩ := ⟨_, rfl⟩
 have HUL := Lib.hid hUL
 rw [← hUL] at UC IC IC2 O1
 have KI : Hid (∀ w, Calls Tryd.prog 54 #[.int .i64 (k : Int)] w (SameW w (.bool true))) := fun w => by
  have h := isKind_any (k : Int) w
  rw [decide_eq_true (show (1 : Int) ≤ (k : Int) by omega), decide_eq_true (show (k : Int) ≤ 20 by omega)] at h
  exact h
 have k1 : (k : Int) < 21 := by omega
 have k2 : k < 21 := by omega
 have k3 : (0 : Int) ≤ (k : Int) := by omega
 clear hU hk hu ho ht hUL
 go_enter Tryd.func30, Tryd.ntmps30
 go_wp2_with (refine wpList_boxBlk rfl 36 (.tmp 0) rfl #[.int .i64 (k : Int), .string ow, .int .i64 nu, .int .i64 ix, .string tx] rfl ?_)
 intro w1 n1
 have F1 := Lib.hid n1.fr
 have NB0 := Lib.hid n1.blk
 clear n1
 generalize w.heap.size = gb at *
 have NB : Hid (Blk w1 gb 36 #[.int .i64 (k : Int), .string ow, .int .i64 nu, .int .i64 ix, .string tx]) := NB0.out
 clear NB0
 have c0 : w1.cell? ⟨gb, 0, none⟩ = some (.int .i64 (k : Int)) := NB.out.cell 0
 go_wp2_with fail
 refine (KI.out _).mono ?_
 rintro e w' ⟨rfl, rfl⟩
 go_wp2_with (refine wpList_load_add rfl 110 (.tmp 10) rfl ⟨0, k * 6, none⟩ rfl UL _ ?hcc Tryd.underlying110 rfl IC.out (Held.go ?hold))
 case hcc => exact fun j x hx => by rw [Addr.add_mid]; exact F1.out.cellSome (UC.out j x hx) (fun x => x)
 unfold Held
 go_wp2_with (refine wpList_allocBlk rfl 110 rfl usaZ zvUsage #[.string ByteArray.empty, .bool false, .bool false, .bool false, .bool false, .int .i64 0] rfl ?_)
 intro w2 n2
 have N2 := Lib.hid n2
 clear n2
 generalize hgu : w1.heap.size = gu at *
 have HGU := Lib.hid hgu
 clear hgu
 have U2 : Hid (Blk w2 gu 110 #[.string ByteArray.empty, .bool false, .bool false, .bool false, .bool false, .int .i64 0]) := by have h := N2.out.blk; rw [HGU.out] at h; exact h
 go_wp2_with (refine wpList_storeBlk rfl 110 (.tmp 3) _ rfl gu UL.toArray rfl rfl _ _ U2.out IC2.out (by rw [HUL.out]; rfl) O1.out ?_)
 intro w3 b3 f3
 have B3 : Hid (Blk w3 gu 110 (Usa.cells ⟨wd, true, true, false, false, mo⟩).toArray) := by rw [← HUL.out]; exact b3
 have F13 : Hid (Fr Nothing w1 w3) := N2.out.fr.then_ f3 (fun i hi e => by have e' : i = gu := e; have := HGU.out; omega)
 have F3 := Lib.hid (F1.out.trans F13.out)
 have u1 : w3.cell? ⟨gu, 1, none⟩ = some (.bool true) := B3.out.cell 1
 have u2 : w3.cell? ⟨gu, 2, none⟩ = some (.bool true) := B3.out.cell 2
 have u3 : w3.cell? ⟨gu, 3, none⟩ = some (.bool false) := B3.out.cell 3
 have u4 : w3.cell? ⟨gu, 4, none⟩ = some (.bool false) := B3.out.cell 4
 have u5 : w3.cell? ⟨gu, 5, none⟩ = some (.int .i64 mo) := B3.out.cell 5
 have NB3 := Lib.hid (NB.out.fr F13.out (fun x => x))
 have n1 : w3.cell? ⟨gb, 1, none⟩ = some (.string ow) := NB3.out.cell 1
 have n2 : w3.cell? ⟨gb, 2, none⟩ = some (.int .i64 nu) := NB3.out.cell 2
 have n3 : w3.cell? ⟨gb, 3, none⟩ = some (.int .i64 ix) := NB3.out.cell 3
 have n4 : w3.cell? ⟨gb, 4, none⟩ = some (.string tx) := NB3.out.cell 4
 clear b3 f3 N2 HGU U2 F13 c0 NB F1 UC IC IC2 O1 HUL
 have CB := Lib.hid (Fr.refl Nothing w3)
 by_cases e_ix : ix = 0
 ·have He_ix := Lib.hid e_ix
  have t_e_ix := beq0 e_ix
  clear e_ix
  cases e_tx : tx.toList.isEmpty
  ·have He_tx := Lib.hid e_tx
   go_wp2
   go_ret
   refine ⟨_, rfl, ?_, F3.out⟩
   rw [HOK.out]
   simp [okUs, He_tx.out]
  ·have He_tx := Lib.hid e_tx
   have K1 := Lib.hid (Valid_any ow w3 HOW.out)
   obtain ⟨v1, hv1⟩ : ∃ v1, validO ow = v1 := ⟨_, rfl⟩
   have Hv1 := Lib.hid hv1
   rw [hv1] at K1
   clear hv1
   go_wp2_with fail
   refine K1.out.mono ?_
   rintro e w4 ⟨rfl, f4⟩
   have F4 := Lib.hid (F3.out.trans f4)
   have u1' : w4.cell? ⟨gu, 1, none⟩ = some (.bool true) := f4.cellSome u1 (fun x => x)
   have u2' : w4.cell? ⟨gu, 2, none⟩ = some (.bool true) := f4.cellSome u2 (fun x => x)
   have u3' : w4.cell? ⟨gu, 3, none⟩ = some (.bool false) := f4.cellSome u3 (fun x => x)
   have u4' : w4.cell? ⟨gu, 4, none⟩ = some (.bool false) := f4.cellSome u4 (fun x => x)
   have u5' : w4.cell? ⟨gu, 5, none⟩ = some (.int .i64 mo) := f4.cellSome u5 (fun x => x)
   have n1' : w4.cell? ⟨gb, 1, none⟩ = some (.string ow) := f4.cellSome n1 (fun x => x)
   have n2' : w4.cell? ⟨gb, 2, none⟩ = some (.int .i64 nu) := f4.cellSome n2 (fun x => x)
   have n3' : w4.cell? ⟨gb, 3, none⟩ = some (.int .i64 ix) := f4.cellSome n3 (fun x => x)
   have n4' : w4.cell? ⟨gb, 4, none⟩ = some (.string tx) := f4.cellSome n4 (fun x => x)
   clear f4 u1 u2 u3 u4 u5 n1 n2 n3 n4
   cases v1
   ·go_wp2
    go_ret
    refine ⟨_, rfl, ?_, F4.out⟩
    rw [HOK.out]
    have hh := Hv1.out
    simp [okUs, hh]
   ·have K2 := Lib.hid (within_any nu 1073741824 w4)
    obtain ⟨v2, hv2⟩ : ∃ v2, (decide (0 ≤ nu) && decide (nu ≤ 1073741824)) = v2 := ⟨_, rfl⟩
    have Hv2 := Lib.hid hv2
    rw [hv2] at K2
    clear hv2
    go_wp2_with fail
    refine K2.out.mono ?_
    rintro e w5 ⟨rfl, rfl⟩
    cases v2
    ·go_wp2
     go_ret
     refine ⟨_, rfl, ?_, F4.out⟩
     rw [HOK.out]
     have hh := Hv2.out
     rw [okUs]; simp only [hh]; simp
    ·go_wp2
     go_ret
     refine ⟨_, rfl, ?_, F4.out⟩
     rw [HOK.out]
     simp [okUs, He_ix.out, He_tx.out, Hv1.out, Hv2.out]
 ·have He_ix := Lib.hid e_ix
  have t_e_ix := bne0 e_ix
  clear e_ix
  go_wp2
  go_ret
  refine ⟨_, rfl, ?_, F3.out⟩
  rw [HOK.out]
  simp [okUs, He_ix.out]
set_option maxRecDepth 100000 in
set_option maxHeartbeats 4000000 in
theorem Check_1110 (k : Nat) (ow : ByteArray) (nu ix : Int) (tx wd : ByteArray) (mo : Int) (w : World) (hU : UsaT w) (hk : 1 ≤ k ∧ k ≤ 20) (hu : usaL[k]? = some ⟨wd, true, true, true, false, mo⟩) (ho : ow.size ≤ 1099511627776) (ht : tx.size ≤ 1099511627776) :
  Calls Tryd.prog 30 #[.agg #[.int .i64 (k : Int), .string ow, .int .i64 nu, .int .i64 ix, .string tx]] w (Checked w ⟨(k : Int), ow, nu, ix, tx⟩) := by
 have HOK : Hid (okNm ⟨(k : Int), ow, nu, ix, tx⟩ = okUs ⟨wd, true, true, true, false, mo⟩ ⟨(k : Int), ow, nu, ix, tx⟩) := by
  simp only [Hid, okNm, Int.toNat_natCast, hu]
  rw [decide_eq_true (show (1 : Int) ≤ (k : Int) by omega), decide_eq_true (show (k : Int) ≤ 20 by omega)]
  rfl
 have HOW := Lib.hid ho
 have HTX := Lib.hid ht
 have UC : Hid (∀ j v, (Usa.cells ⟨wd, true, true, true, false, mo⟩)[j]? = some v → w.cell? ⟨0, k * 6 + j, none⟩ = some v) := hU.row k _ hu
 have IC : Hid ((Tryd.prog.info? 110).map (·.size) = some (Usa.cells ⟨wd, true, true, true, false, mo⟩).length) := infoUsage
 have IC2 : Hid ((Tryd.prog.info? 110).map (·.size) = some (Usa.cells ⟨wd, true, true, true, false, mo⟩).toArray.size) := infoUsage
 have O1 := Lib.hid (Usa.one ⟨wd, true, true, true, false, mo⟩)
 obtain ⟨UL, hUL⟩ : ∃ UL, UL = Usa.cells ⟨wd, true, true, true, false, mo⟩ := ⟨_, rfl⟩
 have HUL := Lib.hid hUL
 rw [← hUL] at UC IC IC2 O1
 have KI : Hid (∀ w, Calls Tryd.prog 54 #[.int .i64 (k : Int)] w (SameW w (.bool true))) := fun w => by
  have h := isKind_any (k : Int) w
  rw [decide_eq_true (show (1 : Int) ≤ (k : Int) by omega), decide_eq_true (show (k : Int) ≤ 20 by omega)] at h
  exact h
 have k1 : (k : Int) < 21 := by omega
 have k2 : k < 21 := by omega
 have k3 : (0 : Int) ≤ (k : Int) := by omega
 clear hU hk hu ho ht hUL
 go_enter Tryd.func30, Tryd.ntmps30
 go_wp2_with (refine wpList_boxBlk rfl 36 (.tmp 0) rfl #[.int .i64 (k : Int), .string ow, .int .i64 nu, .int .i64 ix, .string tx] rfl ?_)
 intro w1 n1
 have F1 := Lib.hid n1.fr
 have NB0 := Lib.hid n1.blk
 clear n1
 generalize w.heap.size = gb at *
 have NB : Hid (Blk w1 gb 36 #[.int .i64 (k : Int), .string ow, .int .i64 nu, .int .i64 ix, .string tx]) := NB0.out
 clear NB0
 have c0 : w1.cell? ⟨gb, 0, none⟩ = some (.int .i64 (k : Int)) := NB.out.cell 0
 go_wp2_with fail
 refine (KI.out _).mono ?_
 rintro e w' ⟨rfl, rfl⟩
 go_wp2_with (refine wpList_load_add rfl 110 (.tmp 10) rfl ⟨0, k * 6, none⟩ rfl UL _ ?hcc Tryd.underlying110 rfl IC.out (Held.go ?hold))
 case hcc => exact fun j x hx => by rw [Addr.add_mid]; exact F1.out.cellSome (UC.out j x hx) (fun x => x)
 unfold Held
 go_wp2_with (refine wpList_allocBlk rfl 110 rfl usaZ zvUsage #[.string ByteArray.empty, .bool false, .bool false, .bool false, .bool false, .int .i64 0] rfl ?_)
 intro w2 n2
 have N2 := Lib.hid n2
 clear n2
 generalize hgu : w1.heap.size = gu at *
 have HGU := Lib.hid hgu
 clear hgu
 have U2 : Hid (Blk w2 gu 110 #[.string ByteArray.empty, .bool false, .bool false, .bool false, .bool false, .int .i64 0]) := by have h := N2.out.blk; rw [HGU.out] at h; exact h
 go_wp2_with (refine wpList_storeBlk rfl 110 (.tmp 3) _ rfl gu UL.toArray rfl rfl _ _ U2.out IC2.out (by rw [HUL.out]; rfl) O1.out ?_)
 intro w3 b3 f3
 have B3 : Hid (Blk w3 gu 110 (Usa.cells ⟨wd, true, true, true, false, mo⟩).toArray) := by rw [← HUL.out]; exact b3
 have F13 : Hid (Fr Nothing w1 w3) := N2.out.fr.then_ f3 (fun i hi e => by have e' : i = gu := e; have := HGU.out; omega)
 have F3 := Lib.hid (F1.out.trans F13.out)
 have u1 : w3.cell? ⟨gu, 1, none⟩ = some (.bool true) := B3.out.cell 1
 have u2 : w3.cell? ⟨gu, 2, none⟩ = some (.bool true) := B3.out.cell 2
 have u3 : w3.cell? ⟨gu, 3, none⟩ = some (.bool true) := B3.out.cell 3
 have u4 : w3.cell? ⟨gu, 4, none⟩ = some (.bool false) := B3.out.cell 4
 have u5 : w3.cell? ⟨gu, 5, none⟩ = some (.int .i64 mo) := B3.out.cell 5
 have NB3 := Lib.hid (NB.out.fr F13.out (fun x => x))
 have n1 : w3.cell? ⟨gb, 1, none⟩ = some (.string ow) := NB3.out.cell 1
 have n2 : w3.cell? ⟨gb, 2, none⟩ = some (.int .i64 nu) := NB3.out.cell 2
 have n3 : w3.cell? ⟨gb, 3, none⟩ = some (.int .i64 ix) := NB3.out.cell 3
 have n4 : w3.cell? ⟨gb, 4, none⟩ = some (.string tx) := NB3.out.cell 4
 clear b3 f3 N2 HGU U2 F13 c0 NB F1 UC IC IC2 O1 HUL
 have CB := Lib.hid (Fr.refl Nothing w3)
 cases e_tx : tx.toList.isEmpty
 ·have He_tx := Lib.hid e_tx
  go_wp2
  go_ret
  refine ⟨_, rfl, ?_, F3.out⟩
  rw [HOK.out]
  simp [okUs, He_tx.out]
 ·have He_tx := Lib.hid e_tx
  have K1 := Lib.hid (Valid_any ow w3 HOW.out)
  obtain ⟨v1, hv1⟩ : ∃ v1, validO ow = v1 := ⟨_, rfl⟩
  have Hv1 := Lib.hid hv1
  rw [hv1] at K1
  clear hv1
  go_wp2_with fail
  refine K1.out.mono ?_
  rintro e w4 ⟨rfl, f4⟩
  have F4 := Lib.hid (F3.out.trans f4)
  have u1' : w4.cell? ⟨gu, 1, none⟩ = some (.bool true) := f4.cellSome u1 (fun x => x)
  have u2' : w4.cell? ⟨gu, 2, none⟩ = some (.bool true) := f4.cellSome u2 (fun x => x)
  have u3' : w4.cell? ⟨gu, 3, none⟩ = some (.bool true) := f4.cellSome u3 (fun x => x)
  have u4' : w4.cell? ⟨gu, 4, none⟩ = some (.bool false) := f4.cellSome u4 (fun x => x)
  have u5' : w4.cell? ⟨gu, 5, none⟩ = some (.int .i64 mo) := f4.cellSome u5 (fun x => x)
  have n1' : w4.cell? ⟨gb, 1, none⟩ = some (.string ow) := f4.cellSome n1 (fun x => x)
  have n2' : w4.cell? ⟨gb, 2, none⟩ = some (.int .i64 nu) := f4.cellSome n2 (fun x => x)
  have n3' : w4.cell? ⟨gb, 3, none⟩ = some (.int .i64 ix) := f4.cellSome n3 (fun x => x)
  have n4' : w4.cell? ⟨gb, 4, none⟩ = some (.string tx) := f4.cellSome n4 (fun x => x)
  clear f4 u1 u2 u3 u4 u5 n1 n2 n3 n4
  cases v1
  ·go_wp2
   go_ret
   refine ⟨_, rfl, ?_, F4.out⟩
   rw [HOK.out]
   have hh := Hv1.out
   simp [okUs, hh]
  ·have K2 := Lib.hid (within_any nu 1073741824 w4)
   obtain ⟨v2, hv2⟩ : ∃ v2, (decide (0 ≤ nu) && decide (nu ≤ 1073741824)) = v2 := ⟨_, rfl⟩
   have Hv2 := Lib.hid hv2
   rw [hv2] at K2
   clear hv2
   go_wp2_with fail
   refine K2.out.mono ?_
   rintro e w5 ⟨rfl, rfl⟩
   cases v2
   ·go_wp2
    go_ret
    refine ⟨_, rfl, ?_, F4.out⟩
    rw [HOK.out]
    have hh := Hv2.out
    rw [okUs]; simp only [hh]; simp
   ·have K3 := Lib.hid (within_any ix mo w4)
    obtain ⟨v3, hv3⟩ : ∃ v3, (decide (0 ≤ ix) && decide (ix ≤ mo)) = v3 := ⟨_, rfl⟩
    have Hv3 := Lib.hid hv3
    rw [hv3] at K3
    clear hv3
    go_wp2_with fail
    refine K3.out.mono ?_
    rintro e w5 ⟨rfl, rfl⟩
    cases v3
    ·go_wp2
     go_ret
     refine ⟨_, rfl, ?_, F4.out⟩
     rw [HOK.out]
     have hh := Hv3.out
     rw [okUs]; simp only [hh]; simp
    ·go_wp2
     go_ret
     refine ⟨_, rfl, ?_, F4.out⟩
     rw [HOK.out]
     simp [okUs, He_tx.out, Hv1.out, Hv2.out, Hv3.out]
set_option maxRecDepth 100000 in
set_option maxHeartbeats 4000000 in
theorem Check_1101 (k : Nat) (ow : ByteArray) (nu ix : Int) (tx wd : ByteArray) (mo : Int) (w : World) (hU : UsaT w) (hk : 1 ≤ k ∧ k ≤ 20) (hu : usaL[k]? = some ⟨wd, true, true, false, true, mo⟩) (ho : ow.size ≤ 1099511627776) (ht : tx.size ≤ 1099511627776) :
  Calls Tryd.prog 30 #[.agg #[.int .i64 (k : Int), .string ow, .int .i64 nu, .int .i64 ix, .string tx]] w (Checked w ⟨(k : Int), ow, nu, ix, tx⟩) := by
 have HOK : Hid (okNm ⟨(k : Int), ow, nu, ix, tx⟩ = okUs ⟨wd, true, true, false, true, mo⟩ ⟨(k : Int), ow, nu, ix, tx⟩) := by
  simp only [Hid, okNm, Int.toNat_natCast, hu]
  rw [decide_eq_true (show (1 : Int) ≤ (k : Int) by omega), decide_eq_true (show (k : Int) ≤ 20 by omega)]
  rfl
 have HOW := Lib.hid ho
 have HTX := Lib.hid ht
 have UC : Hid (∀ j v, (Usa.cells ⟨wd, true, true, false, true, mo⟩)[j]? = some v → w.cell? ⟨0, k * 6 + j, none⟩ = some v) := hU.row k _ hu
 have IC : Hid ((Tryd.prog.info? 110).map (·.size) = some (Usa.cells ⟨wd, true, true, false, true, mo⟩).length) := infoUsage
 have IC2 : Hid ((Tryd.prog.info? 110).map (·.size) = some (Usa.cells ⟨wd, true, true, false, true, mo⟩).toArray.size) := infoUsage
 have O1 := Lib.hid (Usa.one ⟨wd, true, true, false, true, mo⟩)
 obtain ⟨UL, hUL⟩ : ∃ UL, UL = Usa.cells ⟨wd, true, true, false, true, mo⟩ := ⟨_, rfl⟩
 have HUL := Lib.hid hUL
 rw [← hUL] at UC IC IC2 O1
 have KI : Hid (∀ w, Calls Tryd.prog 54 #[.int .i64 (k : Int)] w (SameW w (.bool true))) := fun w => by
  have h := isKind_any (k : Int) w
  rw [decide_eq_true (show (1 : Int) ≤ (k : Int) by omega), decide_eq_true (show (k : Int) ≤ 20 by omega)] at h
  exact h
 have k1 : (k : Int) < 21 := by omega
 have k2 : k < 21 := by omega
 have k3 : (0 : Int) ≤ (k : Int) := by omega
 clear hU hk hu ho ht hUL
 go_enter Tryd.func30, Tryd.ntmps30
 go_wp2_with (refine wpList_boxBlk rfl 36 (.tmp 0) rfl #[.int .i64 (k : Int), .string ow, .int .i64 nu, .int .i64 ix, .string tx] rfl ?_)
 intro w1 n1
 have F1 := Lib.hid n1.fr
 have NB0 := Lib.hid n1.blk
 clear n1
 generalize w.heap.size = gb at *
 have NB : Hid (Blk w1 gb 36 #[.int .i64 (k : Int), .string ow, .int .i64 nu, .int .i64 ix, .string tx]) := NB0.out
 clear NB0
 have c0 : w1.cell? ⟨gb, 0, none⟩ = some (.int .i64 (k : Int)) := NB.out.cell 0
 go_wp2_with fail
 refine (KI.out _).mono ?_
 rintro e w' ⟨rfl, rfl⟩
 go_wp2_with (refine wpList_load_add rfl 110 (.tmp 10) rfl ⟨0, k * 6, none⟩ rfl UL _ ?hcc Tryd.underlying110 rfl IC.out (Held.go ?hold))
 case hcc => exact fun j x hx => by rw [Addr.add_mid]; exact F1.out.cellSome (UC.out j x hx) (fun x => x)
 unfold Held
 go_wp2_with (refine wpList_allocBlk rfl 110 rfl usaZ zvUsage #[.string ByteArray.empty, .bool false, .bool false, .bool false, .bool false, .int .i64 0] rfl ?_)
 intro w2 n2
 have N2 := Lib.hid n2
 clear n2
 generalize hgu : w1.heap.size = gu at *
 have HGU := Lib.hid hgu
 clear hgu
 have U2 : Hid (Blk w2 gu 110 #[.string ByteArray.empty, .bool false, .bool false, .bool false, .bool false, .int .i64 0]) := by have h := N2.out.blk; rw [HGU.out] at h; exact h
 go_wp2_with (refine wpList_storeBlk rfl 110 (.tmp 3) _ rfl gu UL.toArray rfl rfl _ _ U2.out IC2.out (by rw [HUL.out]; rfl) O1.out ?_)
 intro w3 b3 f3
 have B3 : Hid (Blk w3 gu 110 (Usa.cells ⟨wd, true, true, false, true, mo⟩).toArray) := by rw [← HUL.out]; exact b3
 have F13 : Hid (Fr Nothing w1 w3) := N2.out.fr.then_ f3 (fun i hi e => by have e' : i = gu := e; have := HGU.out; omega)
 have F3 := Lib.hid (F1.out.trans F13.out)
 have u1 : w3.cell? ⟨gu, 1, none⟩ = some (.bool true) := B3.out.cell 1
 have u2 : w3.cell? ⟨gu, 2, none⟩ = some (.bool true) := B3.out.cell 2
 have u3 : w3.cell? ⟨gu, 3, none⟩ = some (.bool false) := B3.out.cell 3
 have u4 : w3.cell? ⟨gu, 4, none⟩ = some (.bool true) := B3.out.cell 4
 have u5 : w3.cell? ⟨gu, 5, none⟩ = some (.int .i64 mo) := B3.out.cell 5
 have NB3 := Lib.hid (NB.out.fr F13.out (fun x => x))
 have n1 : w3.cell? ⟨gb, 1, none⟩ = some (.string ow) := NB3.out.cell 1
 have n2 : w3.cell? ⟨gb, 2, none⟩ = some (.int .i64 nu) := NB3.out.cell 2
 have n3 : w3.cell? ⟨gb, 3, none⟩ = some (.int .i64 ix) := NB3.out.cell 3
 have n4 : w3.cell? ⟨gb, 4, none⟩ = some (.string tx) := NB3.out.cell 4
 clear b3 f3 N2 HGU U2 F13 c0 NB F1 UC IC IC2 O1 HUL
 have CB := Lib.hid (Fr.refl Nothing w3)
 by_cases e_ix : ix = 0
 ·have He_ix := Lib.hid e_ix
  have t_e_ix := beq0 e_ix
  clear e_ix
  have K1 := Lib.hid (Valid_any ow w3 HOW.out)
  obtain ⟨v1, hv1⟩ : ∃ v1, validO ow = v1 := ⟨_, rfl⟩
  have Hv1 := Lib.hid hv1
  rw [hv1] at K1
  clear hv1
  go_wp2_with fail
  refine K1.out.mono ?_
  rintro e w4 ⟨rfl, f4⟩
  have F4 := Lib.hid (F3.out.trans f4)
  have u1' : w4.cell? ⟨gu, 1, none⟩ = some (.bool true) := f4.cellSome u1 (fun x => x)
  have u2' : w4.cell? ⟨gu, 2, none⟩ = some (.bool true) := f4.cellSome u2 (fun x => x)
  have u3' : w4.cell? ⟨gu, 3, none⟩ = some (.bool false) := f4.cellSome u3 (fun x => x)
  have u4' : w4.cell? ⟨gu, 4, none⟩ = some (.bool true) := f4.cellSome u4 (fun x => x)
  have u5' : w4.cell? ⟨gu, 5, none⟩ = some (.int .i64 mo) := f4.cellSome u5 (fun x => x)
  have n1' : w4.cell? ⟨gb, 1, none⟩ = some (.string ow) := f4.cellSome n1 (fun x => x)
  have n2' : w4.cell? ⟨gb, 2, none⟩ = some (.int .i64 nu) := f4.cellSome n2 (fun x => x)
  have n3' : w4.cell? ⟨gb, 3, none⟩ = some (.int .i64 ix) := f4.cellSome n3 (fun x => x)
  have n4' : w4.cell? ⟨gb, 4, none⟩ = some (.string tx) := f4.cellSome n4 (fun x => x)
  clear f4 u1 u2 u3 u4 u5 n1 n2 n3 n4
  cases v1
  ·go_wp2
   go_ret
   refine ⟨_, rfl, ?_, F4.out⟩
   rw [HOK.out]
   have hh := Hv1.out
   simp [okUs, hh]
  ·have K2 := Lib.hid (within_any nu 1073741824 w4)
   obtain ⟨v2, hv2⟩ : ∃ v2, (decide (0 ≤ nu) && decide (nu ≤ 1073741824)) = v2 := ⟨_, rfl⟩
   have Hv2 := Lib.hid hv2
   rw [hv2] at K2
   clear hv2
   go_wp2_with fail
   refine K2.out.mono ?_
   rintro e w5 ⟨rfl, rfl⟩
   cases v2
   ·go_wp2
    go_ret
    refine ⟨_, rfl, ?_, F4.out⟩
    rw [HOK.out]
    have hh := Hv2.out
    rw [okUs]; simp only [hh]; simp
   ·have K3 := Lib.hid (Word_any tx w4 HTX.out)
    obtain ⟨v3, hv3⟩ : ∃ v3, wordO tx = v3 := ⟨_, rfl⟩
    have Hv3 := Lib.hid hv3
    rw [hv3] at K3
    clear hv3
    go_wp2_with fail
    refine K3.out.mono ?_
    rintro e w5 ⟨rfl, rfl⟩
    cases v3
    ·go_wp2
     go_ret
     refine ⟨_, rfl, ?_, F4.out⟩
     rw [HOK.out]
     have hh := Hv3.out
     simp [okUs, hh]
    ·go_wp2
     go_ret
     refine ⟨_, rfl, ?_, F4.out⟩
     rw [HOK.out]
     simp [okUs, He_ix.out, Hv1.out, Hv2.out, Hv3.out]
 ·have He_ix := Lib.hid e_ix
  have t_e_ix := bne0 e_ix
  clear e_ix
  go_wp2
  go_ret
  refine ⟨_, rfl, ?_, F3.out⟩
  rw [HOK.out]
  simp [okUs, He_ix.out]
set_option maxRecDepth 100000 in
set_option maxHeartbeats 4000000 in
theorem Check_0100 (k : Nat) (ow : ByteArray) (nu ix : Int) (tx wd : ByteArray) (mo : Int) (w : World) (hU : UsaT w) (hk : 1 ≤ k ∧ k ≤ 20) (hu : usaL[k]? = some ⟨wd, false, true, false, false, mo⟩) (ho : ow.size ≤ 1099511627776) (ht : tx.size ≤ 1099511627776) :
  Calls Tryd.prog 30 #[.agg #[.int .i64 (k : Int), .string ow, .int .i64 nu, .int .i64 ix, .string tx]] w (Checked w ⟨(k : Int), ow, nu, ix, tx⟩) := by
 have HOK : Hid (okNm ⟨(k : Int), ow, nu, ix, tx⟩ = okUs ⟨wd, false, true, false, false, mo⟩ ⟨(k : Int), ow, nu, ix, tx⟩) := by
  simp only [Hid, okNm, Int.toNat_natCast, hu]
  rw [decide_eq_true (show (1 : Int) ≤ (k : Int) by omega), decide_eq_true (show (k : Int) ≤ 20 by omega)]
  rfl
 have HOW := Lib.hid ho
 have HTX := Lib.hid ht
 have UC : Hid (∀ j v, (Usa.cells ⟨wd, false, true, false, false, mo⟩)[j]? = some v → w.cell? ⟨0, k * 6 + j, none⟩ = some v) := hU.row k _ hu
 have IC : Hid ((Tryd.prog.info? 110).map (·.size) = some (Usa.cells ⟨wd, false, true, false, false, mo⟩).length) := infoUsage
 have IC2 : Hid ((Tryd.prog.info? 110).map (·.size) = some (Usa.cells ⟨wd, false, true, false, false, mo⟩).toArray.size) := infoUsage
 have O1 := Lib.hid (Usa.one ⟨wd, false, true, false, false, mo⟩)
 obtain ⟨UL, hUL⟩ : ∃ UL, UL = Usa.cells ⟨wd, false, true, false, false, mo⟩ := ⟨_, rfl⟩
 have HUL := Lib.hid hUL
 rw [← hUL] at UC IC IC2 O1
 have KI : Hid (∀ w, Calls Tryd.prog 54 #[.int .i64 (k : Int)] w (SameW w (.bool true))) := fun w => by
  have h := isKind_any (k : Int) w
  rw [decide_eq_true (show (1 : Int) ≤ (k : Int) by omega), decide_eq_true (show (k : Int) ≤ 20 by omega)] at h
  exact h
 have k1 : (k : Int) < 21 := by omega
 have k2 : k < 21 := by omega
 have k3 : (0 : Int) ≤ (k : Int) := by omega
 clear hU hk hu ho ht hUL
 go_enter Tryd.func30, Tryd.ntmps30
 go_wp2_with (refine wpList_boxBlk rfl 36 (.tmp 0) rfl #[.int .i64 (k : Int), .string ow, .int .i64 nu, .int .i64 ix, .string tx] rfl ?_)
 intro w1 n1
 have F1 := Lib.hid n1.fr
 have NB0 := Lib.hid n1.blk
 clear n1
 generalize w.heap.size = gb at *
 have NB : Hid (Blk w1 gb 36 #[.int .i64 (k : Int), .string ow, .int .i64 nu, .int .i64 ix, .string tx]) := NB0.out
 clear NB0
 have c0 : w1.cell? ⟨gb, 0, none⟩ = some (.int .i64 (k : Int)) := NB.out.cell 0
 go_wp2_with fail
 refine (KI.out _).mono ?_
 rintro e w' ⟨rfl, rfl⟩
 go_wp2_with (refine wpList_load_add rfl 110 (.tmp 10) rfl ⟨0, k * 6, none⟩ rfl UL _ ?hcc Tryd.underlying110 rfl IC.out (Held.go ?hold))
 case hcc => exact fun j x hx => by rw [Addr.add_mid]; exact F1.out.cellSome (UC.out j x hx) (fun x => x)
 unfold Held
 go_wp2_with (refine wpList_allocBlk rfl 110 rfl usaZ zvUsage #[.string ByteArray.empty, .bool false, .bool false, .bool false, .bool false, .int .i64 0] rfl ?_)
 intro w2 n2
 have N2 := Lib.hid n2
 clear n2
 generalize hgu : w1.heap.size = gu at *
 have HGU := Lib.hid hgu
 clear hgu
 have U2 : Hid (Blk w2 gu 110 #[.string ByteArray.empty, .bool false, .bool false, .bool false, .bool false, .int .i64 0]) := by have h := N2.out.blk; rw [HGU.out] at h; exact h
 go_wp2_with (refine wpList_storeBlk rfl 110 (.tmp 3) _ rfl gu UL.toArray rfl rfl _ _ U2.out IC2.out (by rw [HUL.out]; rfl) O1.out ?_)
 intro w3 b3 f3
 have B3 : Hid (Blk w3 gu 110 (Usa.cells ⟨wd, false, true, false, false, mo⟩).toArray) := by rw [← HUL.out]; exact b3
 have F13 : Hid (Fr Nothing w1 w3) := N2.out.fr.then_ f3 (fun i hi e => by have e' : i = gu := e; have := HGU.out; omega)
 have F3 := Lib.hid (F1.out.trans F13.out)
 have u1 : w3.cell? ⟨gu, 1, none⟩ = some (.bool false) := B3.out.cell 1
 have u2 : w3.cell? ⟨gu, 2, none⟩ = some (.bool true) := B3.out.cell 2
 have u3 : w3.cell? ⟨gu, 3, none⟩ = some (.bool false) := B3.out.cell 3
 have u4 : w3.cell? ⟨gu, 4, none⟩ = some (.bool false) := B3.out.cell 4
 have u5 : w3.cell? ⟨gu, 5, none⟩ = some (.int .i64 mo) := B3.out.cell 5
 have NB3 := Lib.hid (NB.out.fr F13.out (fun x => x))
 have n1 : w3.cell? ⟨gb, 1, none⟩ = some (.string ow) := NB3.out.cell 1
 have n2 : w3.cell? ⟨gb, 2, none⟩ = some (.int .i64 nu) := NB3.out.cell 2
 have n3 : w3.cell? ⟨gb, 3, none⟩ = some (.int .i64 ix) := NB3.out.cell 3
 have n4 : w3.cell? ⟨gb, 4, none⟩ = some (.string tx) := NB3.out.cell 4
 clear b3 f3 N2 HGU U2 F13 c0 NB F1 UC IC IC2 O1 HUL
 have CB := Lib.hid (Fr.refl Nothing w3)
 cases e_ow : ow.toList.isEmpty
 ·have He_ow := Lib.hid e_ow
  go_wp2
  go_ret
  refine ⟨_, rfl, ?_, F3.out⟩
  rw [HOK.out]
  simp [okUs, He_ow.out]
 ·have He_ow := Lib.hid e_ow
  by_cases e_ix : ix = 0
  ·have He_ix := Lib.hid e_ix
   have t_e_ix := beq0 e_ix
   clear e_ix
   cases e_tx : tx.toList.isEmpty
   ·have He_tx := Lib.hid e_tx
    go_wp2
    go_ret
    refine ⟨_, rfl, ?_, F3.out⟩
    rw [HOK.out]
    simp [okUs, He_tx.out]
   ·have He_tx := Lib.hid e_tx
    have K1 := Lib.hid (within_any nu 1073741824 w3)
    obtain ⟨v1, hv1⟩ : ∃ v1, (decide (0 ≤ nu) && decide (nu ≤ 1073741824)) = v1 := ⟨_, rfl⟩
    have Hv1 := Lib.hid hv1
    rw [hv1] at K1
    clear hv1
    go_wp2_with fail
    refine K1.out.mono ?_
    rintro e w5 ⟨rfl, rfl⟩
    cases v1
    ·go_wp2
     go_ret
     refine ⟨_, rfl, ?_, F3.out⟩
     rw [HOK.out]
     have hh := Hv1.out
     rw [okUs]; simp only [hh]; simp
    ·go_wp2
     go_ret
     refine ⟨_, rfl, ?_, F3.out⟩
     rw [HOK.out]
     simp [okUs, He_ow.out, He_ix.out, He_tx.out, Hv1.out]
  ·have He_ix := Lib.hid e_ix
   have t_e_ix := bne0 e_ix
   clear e_ix
   go_wp2
   go_ret
   refine ⟨_, rfl, ?_, F3.out⟩
   rw [HOK.out]
   simp [okUs, He_ix.out]
set_option maxRecDepth 100000 in
set_option maxHeartbeats 4000000 in
theorem Check_0001 (k : Nat) (ow : ByteArray) (nu ix : Int) (tx wd : ByteArray) (mo : Int) (w : World) (hU : UsaT w) (hk : 1 ≤ k ∧ k ≤ 20) (hu : usaL[k]? = some ⟨wd, false, false, false, true, mo⟩) (ho : ow.size ≤ 1099511627776) (ht : tx.size ≤ 1099511627776) :
  Calls Tryd.prog 30 #[.agg #[.int .i64 (k : Int), .string ow, .int .i64 nu, .int .i64 ix, .string tx]] w (Checked w ⟨(k : Int), ow, nu, ix, tx⟩) := by
 have HOK : Hid (okNm ⟨(k : Int), ow, nu, ix, tx⟩ = okUs ⟨wd, false, false, false, true, mo⟩ ⟨(k : Int), ow, nu, ix, tx⟩) := by
  simp only [Hid, okNm, Int.toNat_natCast, hu]
  rw [decide_eq_true (show (1 : Int) ≤ (k : Int) by omega), decide_eq_true (show (k : Int) ≤ 20 by omega)]
  rfl
 have HOW := Lib.hid ho
 have HTX := Lib.hid ht
 have UC : Hid (∀ j v, (Usa.cells ⟨wd, false, false, false, true, mo⟩)[j]? = some v → w.cell? ⟨0, k * 6 + j, none⟩ = some v) := hU.row k _ hu
 have IC : Hid ((Tryd.prog.info? 110).map (·.size) = some (Usa.cells ⟨wd, false, false, false, true, mo⟩).length) := infoUsage
 have IC2 : Hid ((Tryd.prog.info? 110).map (·.size) = some (Usa.cells ⟨wd, false, false, false, true, mo⟩).toArray.size) := infoUsage
 have O1 := Lib.hid (Usa.one ⟨wd, false, false, false, true, mo⟩)
 obtain ⟨UL, hUL⟩ : ∃ UL, UL = Usa.cells ⟨wd, false, false, false, true, mo⟩ := ⟨_, rfl⟩
 have HUL := Lib.hid hUL
 rw [← hUL] at UC IC IC2 O1
 have KI : Hid (∀ w, Calls Tryd.prog 54 #[.int .i64 (k : Int)] w (SameW w (.bool true))) := fun w => by
  have h := isKind_any (k : Int) w
  rw [decide_eq_true (show (1 : Int) ≤ (k : Int) by omega), decide_eq_true (show (k : Int) ≤ 20 by omega)] at h
  exact h
 have k1 : (k : Int) < 21 := by omega
 have k2 : k < 21 := by omega
 have k3 : (0 : Int) ≤ (k : Int) := by omega
 clear hU hk hu ho ht hUL
 go_enter Tryd.func30, Tryd.ntmps30
 go_wp2_with (refine wpList_boxBlk rfl 36 (.tmp 0) rfl #[.int .i64 (k : Int), .string ow, .int .i64 nu, .int .i64 ix, .string tx] rfl ?_)
 intro w1 n1
 have F1 := Lib.hid n1.fr
 have NB0 := Lib.hid n1.blk
 clear n1
 generalize w.heap.size = gb at *
 have NB : Hid (Blk w1 gb 36 #[.int .i64 (k : Int), .string ow, .int .i64 nu, .int .i64 ix, .string tx]) := NB0.out
 clear NB0
 have c0 : w1.cell? ⟨gb, 0, none⟩ = some (.int .i64 (k : Int)) := NB.out.cell 0
 go_wp2_with fail
 refine (KI.out _).mono ?_
 rintro e w' ⟨rfl, rfl⟩
 go_wp2_with (refine wpList_load_add rfl 110 (.tmp 10) rfl ⟨0, k * 6, none⟩ rfl UL _ ?hcc Tryd.underlying110 rfl IC.out (Held.go ?hold))
 case hcc => exact fun j x hx => by rw [Addr.add_mid]; exact F1.out.cellSome (UC.out j x hx) (fun x => x)
 unfold Held
 go_wp2_with (refine wpList_allocBlk rfl 110 rfl usaZ zvUsage #[.string ByteArray.empty, .bool false, .bool false, .bool false, .bool false, .int .i64 0] rfl ?_)
 intro w2 n2
 have N2 := Lib.hid n2
 clear n2
 generalize hgu : w1.heap.size = gu at *
 have HGU := Lib.hid hgu
 clear hgu
 have U2 : Hid (Blk w2 gu 110 #[.string ByteArray.empty, .bool false, .bool false, .bool false, .bool false, .int .i64 0]) := by have h := N2.out.blk; rw [HGU.out] at h; exact h
 go_wp2_with (refine wpList_storeBlk rfl 110 (.tmp 3) _ rfl gu UL.toArray rfl rfl _ _ U2.out IC2.out (by rw [HUL.out]; rfl) O1.out ?_)
 intro w3 b3 f3
 have B3 : Hid (Blk w3 gu 110 (Usa.cells ⟨wd, false, false, false, true, mo⟩).toArray) := by rw [← HUL.out]; exact b3
 have F13 : Hid (Fr Nothing w1 w3) := N2.out.fr.then_ f3 (fun i hi e => by have e' : i = gu := e; have := HGU.out; omega)
 have F3 := Lib.hid (F1.out.trans F13.out)
 have u1 : w3.cell? ⟨gu, 1, none⟩ = some (.bool false) := B3.out.cell 1
 have u2 : w3.cell? ⟨gu, 2, none⟩ = some (.bool false) := B3.out.cell 2
 have u3 : w3.cell? ⟨gu, 3, none⟩ = some (.bool false) := B3.out.cell 3
 have u4 : w3.cell? ⟨gu, 4, none⟩ = some (.bool true) := B3.out.cell 4
 have u5 : w3.cell? ⟨gu, 5, none⟩ = some (.int .i64 mo) := B3.out.cell 5
 have NB3 := Lib.hid (NB.out.fr F13.out (fun x => x))
 have n1 : w3.cell? ⟨gb, 1, none⟩ = some (.string ow) := NB3.out.cell 1
 have n2 : w3.cell? ⟨gb, 2, none⟩ = some (.int .i64 nu) := NB3.out.cell 2
 have n3 : w3.cell? ⟨gb, 3, none⟩ = some (.int .i64 ix) := NB3.out.cell 3
 have n4 : w3.cell? ⟨gb, 4, none⟩ = some (.string tx) := NB3.out.cell 4
 clear b3 f3 N2 HGU U2 F13 c0 NB F1 UC IC IC2 O1 HUL
 have CB := Lib.hid (Fr.refl Nothing w3)
 cases e_ow : ow.toList.isEmpty
 ·have He_ow := Lib.hid e_ow
  go_wp2
  go_ret
  refine ⟨_, rfl, ?_, F3.out⟩
  rw [HOK.out]
  simp [okUs, He_ow.out]
 ·have He_ow := Lib.hid e_ow
  by_cases e_nu : nu = 0
  ·have He_nu := Lib.hid e_nu
   have t_e_nu := beq0 e_nu
   clear e_nu
   by_cases e_ix : ix = 0
   ·have He_ix := Lib.hid e_ix
    have t_e_ix := beq0 e_ix
    clear e_ix
    have K1 := Lib.hid (Word_any tx w3 HTX.out)
    obtain ⟨v1, hv1⟩ : ∃ v1, wordO tx = v1 := ⟨_, rfl⟩
    have Hv1 := Lib.hid hv1
    rw [hv1] at K1
    clear hv1
    go_wp2_with fail
    refine K1.out.mono ?_
    rintro e w5 ⟨rfl, rfl⟩
    cases v1
    ·go_wp2
     go_ret
     refine ⟨_, rfl, ?_, F3.out⟩
     rw [HOK.out]
     have hh := Hv1.out
     simp [okUs, hh]
    ·go_wp2
     go_ret
     refine ⟨_, rfl, ?_, F3.out⟩
     rw [HOK.out]
     simp [okUs, He_ow.out, He_nu.out, He_ix.out, Hv1.out]
   ·have He_ix := Lib.hid e_ix
    have t_e_ix := bne0 e_ix
    clear e_ix
    go_wp2
    go_ret
    refine ⟨_, rfl, ?_, F3.out⟩
    rw [HOK.out]
    simp [okUs, He_ix.out]
  ·have He_nu := Lib.hid e_nu
   have t_e_nu := bne0 e_nu
   clear e_nu
   go_wp2
   go_ret
   refine ⟨_, rfl, ?_, F3.out⟩
   rw [HOK.out]
   simp [okUs, He_nu.out]
set_option maxRecDepth 100000 in
set_option maxHeartbeats 4000000 in
theorem Check_0000 (k : Nat) (ow : ByteArray) (nu ix : Int) (tx wd : ByteArray) (mo : Int) (w : World) (hU : UsaT w) (hk : 1 ≤ k ∧ k ≤ 20) (hu : usaL[k]? = some ⟨wd, false, false, false, false, mo⟩) (ho : ow.size ≤ 1099511627776) (ht : tx.size ≤ 1099511627776) :
  Calls Tryd.prog 30 #[.agg #[.int .i64 (k : Int), .string ow, .int .i64 nu, .int .i64 ix, .string tx]] w (Checked w ⟨(k : Int), ow, nu, ix, tx⟩) := by
 have HOK : Hid (okNm ⟨(k : Int), ow, nu, ix, tx⟩ = okUs ⟨wd, false, false, false, false, mo⟩ ⟨(k : Int), ow, nu, ix, tx⟩) := by
  simp only [Hid, okNm, Int.toNat_natCast, hu]
  rw [decide_eq_true (show (1 : Int) ≤ (k : Int) by omega), decide_eq_true (show (k : Int) ≤ 20 by omega)]
  rfl
 have HOW := Lib.hid ho
 have HTX := Lib.hid ht
 have UC : Hid (∀ j v, (Usa.cells ⟨wd, false, false, false, false, mo⟩)[j]? = some v → w.cell? ⟨0, k * 6 + j, none⟩ = some v) := hU.row k _ hu
 have IC : Hid ((Tryd.prog.info? 110).map (·.size) = some (Usa.cells ⟨wd, false, false, false, false, mo⟩).length) := infoUsage
 have IC2 : Hid ((Tryd.prog.info? 110).map (·.size) = some (Usa.cells ⟨wd, false, false, false, false, mo⟩).toArray.size) := infoUsage
 have O1 := Lib.hid (Usa.one ⟨wd, false, false, false, false, mo⟩)
 obtain ⟨UL, hUL⟩ : ∃ UL, UL = Usa.cells ⟨wd, false, false, false, false, mo⟩ := ⟨_, rfl⟩
 have HUL := Lib.hid hUL
 rw [← hUL] at UC IC IC2 O1
 have KI : Hid (∀ w, Calls Tryd.prog 54 #[.int .i64 (k : Int)] w (SameW w (.bool true))) := fun w => by
  have h := isKind_any (k : Int) w
  rw [decide_eq_true (show (1 : Int) ≤ (k : Int) by omega), decide_eq_true (show (k : Int) ≤ 20 by omega)] at h
  exact h
 have k1 : (k : Int) < 21 := by omega
 have k2 : k < 21 := by omega
 have k3 : (0 : Int) ≤ (k : Int) := by omega
 clear hU hk hu ho ht hUL
 go_enter Tryd.func30, Tryd.ntmps30
 go_wp2_with (refine wpList_boxBlk rfl 36 (.tmp 0) rfl #[.int .i64 (k : Int), .string ow, .int .i64 nu, .int .i64 ix, .string tx] rfl ?_)
 intro w1 n1
 have F1 := Lib.hid n1.fr
 have NB0 := Lib.hid n1.blk
 clear n1
 generalize w.heap.size = gb at *
 have NB : Hid (Blk w1 gb 36 #[.int .i64 (k : Int), .string ow, .int .i64 nu, .int .i64 ix, .string tx]) := NB0.out
 clear NB0
 have c0 : w1.cell? ⟨gb, 0, none⟩ = some (.int .i64 (k : Int)) := NB.out.cell 0
 go_wp2_with fail
 refine (KI.out _).mono ?_
 rintro e w' ⟨rfl, rfl⟩
 go_wp2_with (refine wpList_load_add rfl 110 (.tmp 10) rfl ⟨0, k * 6, none⟩ rfl UL _ ?hcc Tryd.underlying110 rfl IC.out (Held.go ?hold))
 case hcc => exact fun j x hx => by rw [Addr.add_mid]; exact F1.out.cellSome (UC.out j x hx) (fun x => x)
 unfold Held
 go_wp2_with (refine wpList_allocBlk rfl 110 rfl usaZ zvUsage #[.string ByteArray.empty, .bool false, .bool false, .bool false, .bool false, .int .i64 0] rfl ?_)
 intro w2 n2
 have N2 := Lib.hid n2
 clear n2
 generalize hgu : w1.heap.size = gu at *
 have HGU := Lib.hid hgu
 clear hgu
 have U2 : Hid (Blk w2 gu 110 #[.string ByteArray.empty, .bool false, .bool false, .bool false, .bool false, .int .i64 0]) := by have h := N2.out.blk; rw [HGU.out] at h; exact h
 go_wp2_with (refine wpList_storeBlk rfl 110 (.tmp 3) _ rfl gu UL.toArray rfl rfl _ _ U2.out IC2.out (by rw [HUL.out]; rfl) O1.out ?_)
 intro w3 b3 f3
 have B3 : Hid (Blk w3 gu 110 (Usa.cells ⟨wd, false, false, false, false, mo⟩).toArray) := by rw [← HUL.out]; exact b3
 have F13 : Hid (Fr Nothing w1 w3) := N2.out.fr.then_ f3 (fun i hi e => by have e' : i = gu := e; have := HGU.out; omega)
 have F3 := Lib.hid (F1.out.trans F13.out)
 have u1 : w3.cell? ⟨gu, 1, none⟩ = some (.bool false) := B3.out.cell 1
 have u2 : w3.cell? ⟨gu, 2, none⟩ = some (.bool false) := B3.out.cell 2
 have u3 : w3.cell? ⟨gu, 3, none⟩ = some (.bool false) := B3.out.cell 3
 have u4 : w3.cell? ⟨gu, 4, none⟩ = some (.bool false) := B3.out.cell 4
 have u5 : w3.cell? ⟨gu, 5, none⟩ = some (.int .i64 mo) := B3.out.cell 5
 have NB3 := Lib.hid (NB.out.fr F13.out (fun x => x))
 have n1 : w3.cell? ⟨gb, 1, none⟩ = some (.string ow) := NB3.out.cell 1
 have n2 : w3.cell? ⟨gb, 2, none⟩ = some (.int .i64 nu) := NB3.out.cell 2
 have n3 : w3.cell? ⟨gb, 3, none⟩ = some (.int .i64 ix) := NB3.out.cell 3
 have n4 : w3.cell? ⟨gb, 4, none⟩ = some (.string tx) := NB3.out.cell 4
 clear b3 f3 N2 HGU U2 F13 c0 NB F1 UC IC IC2 O1 HUL
 have CB := Lib.hid (Fr.refl Nothing w3)
 cases e_ow : ow.toList.isEmpty
 ·have He_ow := Lib.hid e_ow
  go_wp2
  go_ret
  refine ⟨_, rfl, ?_, F3.out⟩
  rw [HOK.out]
  simp [okUs, He_ow.out]
 ·have He_ow := Lib.hid e_ow
  by_cases e_nu : nu = 0
  ·have He_nu := Lib.hid e_nu
   have t_e_nu := beq0 e_nu
   clear e_nu
   by_cases e_ix : ix = 0
   ·have He_ix := Lib.hid e_ix
    have t_e_ix := beq0 e_ix
    clear e_ix
    cases e_tx : tx.toList.isEmpty
    ·have He_tx := Lib.hid e_tx
     go_wp2
     go_ret
     refine ⟨_, rfl, ?_, F3.out⟩
     rw [HOK.out]
     simp [okUs, He_tx.out]
    ·have He_tx := Lib.hid e_tx
     go_wp2
     go_ret
     refine ⟨_, rfl, ?_, F3.out⟩
     rw [HOK.out]
     simp [okUs, He_ow.out, He_nu.out, He_ix.out, He_tx.out]
   ·have He_ix := Lib.hid e_ix
    have t_e_ix := bne0 e_ix
    clear e_ix
    go_wp2
    go_ret
    refine ⟨_, rfl, ?_, F3.out⟩
    rw [HOK.out]
    simp [okUs, He_ix.out]
  ·have He_nu := Lib.hid e_nu
   have t_e_nu := bne0 e_nu
   clear e_nu
   go_wp2
   go_ret
   refine ⟨_, rfl, ?_, F3.out⟩
   rw [HOK.out]
   simp [okUs, He_nu.out]
end Go.Proofs.YtpnchdgplpdefaaDoor
