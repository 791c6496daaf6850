/- Steps of the proof of LawPipesLoseNothing: contracts of the functions that the law reaches, for every world that holds what each of them asks. -/
import Derived.Test.YtmpokappjogehaaGreatDoorQAN
set_option linter.unusedVariables false
set_option linter.unusedSimpArgs false
namespace Go.Proofs.YtmpokappjogehaaGreatDoor
open Go.RowKit Go.Shelf

theorem within_any (a m : Int) (w : World) : Calls Tryz.prog 262 #[.int .i64 a, .int .i64 m] w (SameW w (.bool (decide (0 ≤ a) && decide (a ≤ m)))) := by
  by_cases h1 : 0 ≤ a
  · have t1 : decide (0 ≤ a) = true := decide_eq_true h1
    rw [t1]
    go_enter Tryz.func262, Tryz.ntmps262
    go_wp2
    go_ret
    exact ⟨by simp, rfl⟩
  · have t1 : decide (0 ≤ a) = false := decide_eq_false h1
    rw [t1]
    go_enter Tryz.func262, Tryz.ntmps262
    go_wp2
    go_ret
    exact ⟨rfl, rfl⟩
theorem isKind_any (a : Int) (w : World) : Calls Tryz.prog 267 #[.int .i64 a] w (SameW w (.bool (decide (1 ≤ a) && decide (a ≤ 20)))) := by
  by_cases h1 : 1 ≤ a
  · have t1 : decide (1 ≤ a) = true := decide_eq_true h1
    rw [t1]
    go_enter Tryz.func267, Tryz.ntmps267
    go_wp2
    go_ret
    exact ⟨by simp, rfl⟩
  · have t1 : decide (1 ≤ a) = false := decide_eq_false h1
    rw [t1]
    go_enter Tryz.func267, Tryz.ntmps267
    go_wp2
    go_ret
    exact ⟨rfl, rfl⟩
def wordB (b : UInt8) : Bool := decide (33 ≤ b.toNat) && decide (b.toNat ≤ 126) && !(b.toNat == 47)
def wordO (s : ByteArray) : Bool := !s.toList.isEmpty && decide (s.size ≤ 32) && s.toList.all wordB
set_option maxRecDepth 100000 in
set_option maxHeartbeats 2000000 in
theorem Word_any (s : ByteArray) (w : World) (hs : s.size ≤ 1099511627776) : Calls Tryz.prog 268 #[.string s] w (SameW w (.bool (wordO s))) := by
  cases he : s.toList.isEmpty
  · by_cases hl : s.size ≤ 32
    · have t1 : decide (32 < (s.size : Int)) = false := decide_eq_false (by omega)
      have HE := Lib.hid he
      have HL := Lib.hid hl
      obtain ⟨R, hR⟩ : ∃ R, R = wordO s := ⟨_, rfl⟩
      rw [← hR]
      have HR : Hid (R = s.toList.all wordB) := by simp only [Hid]; rw [hR, wordO, he, decide_eq_true hl]; rfl
      have HAT : Hid (∀ i, i < s.size → ∃ b, ∃ h : i < s.size, s.toList[i]? = some b ∧ s[i] = b) := fun i hi => by
        have h2 : s.toList[i]? = some (s.toList[i]'(by rw [toList_size]; exact hi)) := List.getElem?_eq_getElem _
        obtain ⟨h3, h4⟩ := str_at h2
        exact ⟨_, h3, h2, h4⟩
      clear hl hR
      go_enter Tryz.func268, Tryz.ntmps268
      go_wp2
      go_loopw [13] (fun i wr => ∃ k : Nat, k ≤ s.size ∧ (∀ b ∈ s.toList.take k, wordB b = true) ∧ i = .int .i64 k ∧ w = wr) (fun i _ => s.size - (intOf i).toNat)
      case atStart => exact ⟨0, by omega, by simp, rfl, rfl⟩
      case round =>
        obtain ⟨k, hk, hall, rfl, rfl⟩ := hrel
        have HA := Lib.hid hall
        clear hall
        by_cases hlt : k < s.size
        · have hI : (k : Int) < (s.size : Int) := by omega
          have hI0 : (0 : Int) ≤ (k : Int) := by omega
          obtain ⟨b, h1, h2, h3⟩ := HAT.out k hlt
          have H2 := Lib.hid h2
          clear h2
          have hno : ∀ h : wordB b = false, R = false := fun h => by
            rw [HR.out, List.all_eq_false]
            exact ⟨b, List.mem_of_getElem? H2.out, by rw [h]; simp⟩
          have HNO := Lib.hid hno
          clear hno
          by_cases g1 : 33 ≤ b.toNat
          · have u1 : decide ((b.toNat : Int) < 33) = false := decide_eq_false (by omega)
            have u1' : ¬ (b.toNat : Int) < 33 := by omega
            by_cases g2 : b.toNat ≤ 126
            · have u2 : decide ((126 : Int) < (b.toNat : Int)) = false := decide_eq_false (by omega)
              have u2' : ¬ (126 : Int) < (b.toNat : Int) := by omega
              by_cases g3 : b.toNat = 47
              · have u3 : ((b.toNat : Int) == 47) = true := by rw [beq_iff_eq]; omega
                obtain rfl : R = false := HNO.out (by simp [wordB, g3])
                clear g1 g2 g3
                go_wp2
                go_ret
                exact ⟨rfl, rfl⟩
              · have u3 : ((b.toNat : Int) == 47) = false := by rw [beq_eq_false_iff_ne]; omega
                have HB : Hid (wordB b = true) := by simp [Hid, wordB, g1, g2, g3]
                clear g1 g2 g3 HNO
                go_wp2
                go_roundw
                case rel => exact ⟨k + 1, by omega, fun x hx => by
                    rw [List.take_add_one, H2.out, Option.toList_some, List.mem_append, List.mem_singleton] at hx
                    rcases hx with hx | rfl
                    · exact HA.out x hx
                    · exact HB.out, by go_num, trivial⟩
                case measure => simp [intOf]; omega
            · have u2 : decide ((126 : Int) < (b.toNat : Int)) = true := decide_eq_true (by omega)
              have u2' : (126 : Int) < (b.toNat : Int) := by omega
              obtain rfl : R = false := HNO.out (by simp [wordB, g2])
              clear g1 g2
              go_wp2
              go_ret
              exact ⟨rfl, rfl⟩
          · have u1 : decide ((b.toNat : Int) < 33) = true := decide_eq_true (by omega)
            have u1' : (b.toNat : Int) < 33 := by omega
            obtain rfl : R = false := HNO.out (by simp [wordB, g1])
            clear g1
            go_wp2
            go_ret
            exact ⟨rfl, rfl⟩
        · obtain rfl : k = s.size := by omega
          have hI : ¬ (s.size : Int) < (s.size : Int) := by omega
          obtain rfl : R = true := by
            rw [HR.out, List.all_eq_true]
            have h := HA.out
            rw [List.take_of_length_le (by rw [toList_size]; omega)] at h
            exact h
          go_wp2
          go_ret
          exact ⟨rfl, rfl⟩
    · have t1 : decide (32 < (s.size : Int)) = true := decide_eq_true (by omega)
      have HR : Hid (wordO s = false) := by simp [Hid, wordO, hl]
      rw [HR.out]
      clear hl
      go_enter Tryz.func268, Tryz.ntmps268
      go_wp2
      go_ret
      exact ⟨rfl, rfl⟩
  · have HR : Hid (wordO s = false) := by simp [Hid, wordO, he]
    rw [HR.out]
    go_enter Tryz.func268, Tryz.ntmps268
    go_wp2
    go_ret
    exact ⟨rfl, rfl⟩
def okUs (u : Usa) (n : NameV) : Bool := (u.owner || n.owner.toList.isEmpty) && (u.number || n.number == 0) && (u.index || n.index == 0) && (u.text || n.text.toList.isEmpty) && (!u.owner || validO n.owner) &&
  (!u.number || (decide (0 ≤ n.number) && decide (n.number ≤ 1073741824))) && (!u.index || (decide (0 ≤ n.index) && decide (n.index ≤ u.most))) && (!u.text || wordO n.text)
def okNm (n : NameV) : Bool := decide (1 ≤ n.kind) && decide (n.kind ≤ 20) && (match usaL[n.kind.toNat]? with | some u => okUs u n | none => false)
def Checked (w : World) (n : NameV) (e : Ending) (w' : World) : Prop := ∃ k : Int, e = .returned (.int .i64 k) ∧ (k == 0) = okNm n ∧ Fr Nothing w w'
theorem Usa.one (u : Usa) : u.cells.toArray.all (·.oneCell') = true := by simp [Usa.cells, Value.oneCell']
theorem okUs_tests2 (wd : ByteArray) (bo bn bi bt : Bool) (mo k : Int) (ow tx : ByteArray) (nu ix : Int) :
    okUs ⟨wd, bo, bn, bi, bt, mo⟩ ⟨k, ow, nu, ix, tx⟩ = !((!bo && !ow.toList.isEmpty) || (!bn && nu != 0) || (!bi && ix != 0) || (!bt && !tx.toList.isEmpty) || (bo && !validO ow) || (bn && !(decide (0 ≤ nu) && decide (nu ≤ 1073741824))) || (bi && !(decide (0 ≤ ix) && decide (ix ≤ mo))) || (bt && !wordO tx)) := by
  unfold okUs
  simp only [bne]
  generalize (decide (0 ≤ nu) && decide (nu ≤ 1073741824)) = c1
  generalize (decide (0 ≤ ix) && decide (ix ≤ mo)) = c2
  generalize (nu == 0) = d1
  generalize (ix == 0) = d2
  generalize validO ow = v
  generalize wordO tx = x
  generalize ow.toList.isEmpty = y1
  generalize tx.toList.isEmpty = y2
  cases bo <;> cases bn <;> cases bi <;> cases bt <;> simp [Bool.and_assoc]
set_option maxRecDepth 100000 in
set_option maxHeartbeats 8000000 in
theorem Check_all (k : Nat) (ow : ByteArray) (nu ix : Int) (tx wd : ByteArray) (bo bn bi bt : Bool) (mo : Int) (w : World) (hU : UsaT w) (hk : 1 ≤ k ∧ k ≤ 20) (hu : usaL[k]? = some ⟨wd, bo, bn, bi, bt, mo⟩) (ho : ow.size ≤ 1099511627776) (ht : tx.size ≤ 1099511627776) :
    Calls Tryz.prog 186 #[.agg #[.int .i64 (k : Int), .string ow, .int .i64 nu, .int .i64 ix, .string tx]] w (Checked w ⟨(k : Int), ow, nu, ix, tx⟩) := by
  have HOK : Hid (okNm ⟨(k : Int), ow, nu, ix, tx⟩ = okUs ⟨wd, bo, bn, bi, bt, mo⟩ ⟨(k : Int), ow, nu, ix, tx⟩) := by
    simp only [Hid, okNm, Int.toNat_natCast, hu]
    rw [decide_eq_true (show (1 : Int) ≤ (k : Int) by omega), decide_eq_true (show (k : Int) ≤ 20 by omega)]
    rfl
  have HALG := Lib.hid (okUs_tests2 wd bo bn bi bt mo k ow tx nu ix)
  obtain ⟨UL, hUL⟩ : ∃ UL, UL = Usa.cells ⟨wd, bo, bn, bi, bt, mo⟩ := ⟨_, rfl⟩
  have UC : Hid (∀ j v, (Usa.cells ⟨wd, bo, bn, bi, bt, mo⟩)[j]? = some v → w.cell? ⟨0, k * 6 + j, none⟩ = some v) := hU.row k _ hu
  have IC : Hid ((Tryz.prog.info? 306).map (·.size) = some (Usa.cells ⟨wd, bo, bn, bi, bt, mo⟩).length) := infoUsage
  have IC2 : Hid ((Tryz.prog.info? 306).map (·.size) = some (Usa.cells ⟨wd, bo, bn, bi, bt, mo⟩).toArray.size) := infoUsage
  have O1 := Lib.hid (Usa.one ⟨wd, bo, bn, bi, bt, mo⟩)
  have HUL := Lib.hid hUL
  rw [← hUL] at UC IC IC2 O1
  have KI : Hid (∀ w, Calls Tryz.prog 267 #[.int .i64 (k : Int)] w (SameW w (.bool true))) := fun w => by
    have h := isKind_any (k : Int) w
    rw [decide_eq_true (show (1 : Int) ≤ (k : Int) by omega), decide_eq_true (show (k : Int) ≤ 20 by omega)] at h
    exact h
  obtain ⟨va, hva⟩ : ∃ va, validO ow = va := ⟨_, rfl⟩
  obtain ⟨wo, hwo⟩ : ∃ wo, wordO tx = wo := ⟨_, rfl⟩
  obtain ⟨c1, hc1⟩ : ∃ c, (decide (0 ≤ nu) && decide (nu ≤ 1073741824)) = c := ⟨_, rfl⟩
  obtain ⟨c2, hc2⟩ : ∃ c, (decide (0 ≤ ix) && decide (ix ≤ mo)) = c := ⟨_, rfl⟩
  have CV : Hid (∀ w, Calls Tryz.prog 98 #[.string ow] w (Same' w (.bool va))) := fun w => by rw [← hva]; exact Valid_any ow w ho
  have CW : Hid (∀ w, Calls Tryz.prog 268 #[.string tx] w (Same' w (.bool wo))) := fun w => by rw [← hwo]; exact (Word_any tx w ht).mono (fun _ _ h => ⟨h.1, by rw [h.2]; exact Fr.refl _ _⟩)
  have CN : Hid (∀ w, Calls Tryz.prog 262 #[.int .i64 nu, .int .i64 1073741824] w (SameW w (.bool c1))) := fun w => by rw [← hc1]; exact within_any nu 1073741824 w
  have CI : Hid (∀ w, Calls Tryz.prog 262 #[.int .i64 ix, .int .i64 mo] w (SameW w (.bool c2))) := fun w => by rw [← hc2]; exact within_any ix mo w
  obtain ⟨x1, e1⟩ : ∃ x1 : Bool, ow.toList.isEmpty = !x1 := ⟨!ow.toList.isEmpty, by simp⟩
  obtain ⟨x4, e4⟩ : ∃ x4 : Bool, tx.toList.isEmpty = !x4 := ⟨!tx.toList.isEmpty, by simp⟩
  obtain ⟨x2, e2⟩ : ∃ x2 : Bool, (nu != 0) = x2 := ⟨_, rfl⟩
  obtain ⟨x3, e3⟩ : ∃ x3 : Bool, (ix != 0) = x3 := ⟨_, rfl⟩
  rw [e1, e2, e3, e4, hva, hwo, hc1, hc2, Bool.not_not, Bool.not_not] at HALG
  have k1 : (k : Int) < 21 := by omega
  have k2 : k < 21 := by omega
  have k3 : (0 : Int) ≤ (k : Int) := by omega
  clear hU hk hu ho ht hUL hva hwo hc1 hc2
  go_enter Tryz.func186, Tryz.ntmps186
  go_wp2_with (refine wpList_boxBlk rfl 144 (.tmp 0) rfl #[.int .i64 (k : Int), .string ow, .int .i64 nu, .int .i64 ix, .string tx] rfl ?_)
  intro w1 n1
  have F1 := Lib.hid n1.fr
  have NB0 := Lib.hid n1.blk
  clear n1
  generalize w.heap.size = gb at *
  have NB1 : Hid (Blk w1 gb 144 #[.int .i64 (k : Int), .string ow, .int .i64 nu, .int .i64 ix, .string tx]) := NB0.out
  clear NB0
  have c0 : w1.cell? ⟨gb, 0, none⟩ = some (.int .i64 (k : Int)) := NB1.out.cell 0
  go_wp2_with fail
  refine (KI.out _).mono ?_
  rintro e w' ⟨rfl, rfl⟩
  go_wp2_with (refine wpList_load_add rfl 306 (.tmp 10) rfl ⟨0, k * 6, none⟩ rfl UL _ ?hcc Tryz.underlying306 rfl IC.out (Held.go ?hold))
  case hcc => exact fun j x hx => by rw [Addr.add_mid]; exact F1.out.cellSome (UC.out j x hx) (fun x => x)
  unfold Held
  go_wp2_with (refine wpList_allocBlk rfl 306 rfl usaZ zvUsage #[.string ByteArray.empty, .bool false, .bool false, .bool false, .bool false, .int .i64 0] rfl ?_)
  intro w2 n2
  have N2 := Lib.hid n2
  clear n2
  generalize hgu : w1.heap.size = gu at *
  have HGU := Lib.hid hgu
  clear hgu
  have U2 : Hid (Blk w2 gu 306 #[.string ByteArray.empty, .bool false, .bool false, .bool false, .bool false, .int .i64 0]) := by have h := N2.out.blk; rw [HGU.out] at h; exact h
  go_wp2_with (refine wpList_storeBlk rfl 306 (.tmp 3) _ rfl gu UL.toArray rfl rfl _ _ U2.out IC2.out (by rw [HUL.out]; rfl) O1.out ?_)
  intro w3 b3 f3
  have UB : Hid (Blk w3 gu 306 #[.string wd, .bool bo, .bool bn, .bool bi, .bool bt, .int .i64 mo]) := by have h := b3; rw [HUL.out] at h; exact h
  have F13 : Hid (Fr Nothing w1 w3) := N2.out.fr.then_ f3 (fun i hi e => by have e' : i = gu := e; have := HGU.out; omega)
  have FF := Lib.hid (F1.out.trans F13.out)
  have NB := Lib.hid (NB1.out.fr F13.out (fun x => x))
  clear b3 f3 N2 U2 F13 F1 NB1 c0 HGU UC IC IC2 O1 HUL KI
  obtain ⟨A1, hA1⟩ : ∃ z : Bool, (bif bo then false else x1) = z := ⟨_, rfl⟩
  have HA1 := Lib.hid hA1
  clear hA1
  go_upto_region 4 with fail
  refine wq_is 9 [.pointer (some ⟨gu, 1, none⟩), .bool bo, .bool (!bo), .bool (!bo), bif bo then undef else .pointer (some ⟨gb, 1, none⟩), bif bo then undef else .string ow, bif bo then undef else .bool x1, bif bo then .bool false else .bool x1, .bool A1] ?hxb ?_
  case hxb =>
    refine ⟨?xb0, ?xb1, ?xb2, ?xb3, ?xb4, ?xb5, ?xb6, ?xb7, ?xb8, trivial⟩
    all_goals intro u w' hf hR
    all_goals simp only [z1, z2, z3, z4, puts, Act.put, z5, z6, z7, Nat.reduceAdd, Nat.zero_add]
    case xb1 =>
      simp only [show u 0 = _ from hR 0]
      refine goS ?_
      have q : _ = some (Value.bool bo) := (UB.out.fr hf (fun x => x)).cell 1
      go_simp
      exact ⟨rfl, Fr.refl _ _⟩
    case' xb2 => simp only [show u 1 = _ from hR 1]
    case' xb3 => simp only [show u 2 = _ from hR 2]
    case' xb4 =>
      simp only [show u 3 = _ from hR 3]
      cases bo
      case true => exact skS
    case xb5 =>
      simp only [show u 4 = _ from hR 4, show u 3 = _ from hR 3]
      cases bo
      case true => exact skS
      refine goS ?_
      have q : _ = some (Value.string ow) := (NB.out.fr hf (fun x => x)).cell 1
      go_simp
      exact ⟨rfl, Fr.refl _ _⟩
    case' xb6 =>
      simp only [show u 5 = _ from hR 5, show u 3 = _ from hR 3]
      cases bo
      case true => exact skS
    case' xb7 =>
      simp only [show u 3 = _ from hR 3, show u 6 = _ from hR 6]
      cases bo
    case xb8 =>
      simp only [show u 7 = _ from hR 7]
      cases bo <;> exact goS (by go_simp; exact ⟨by rw [← HA1.out]; rfl, Fr.refl _ _⟩)
    all_goals
      try simp only [cond]
      refine goS ?_
      go_simp
      exact ⟨rfl, Fr.refl _ _⟩
  intro w' hf
  simp only [z1, z2, z3, z4, puts, Act.put, z5, z6, z7, z8, z9, z10, z11, Nat.reduceAdd, Nat.zero_add]
  have FF := Lib.hid (FF.out.trans hf)
  have NB := Lib.hid (NB.out.fr hf (fun x => x))
  have UB := Lib.hid (UB.out.fr hf (fun x => x))
  clear hf
  have VA1 : Hid ((!bo && x1) = A1) := by
    rw [Hid, ← HA1.out]
    cases bo <;> simp
  clear HA1
  cases vA1 : A1
  case true =>
    rw [vA1] at VA1
    clear vA1
    go_wp2
    go_ret
    refine ⟨_, rfl, ?_, FF.out⟩
    rw [HOK.out, HALG.out, VA1.out]
    simp
  rw [vA1] at VA1
  clear vA1
  obtain ⟨A2, hA2⟩ : ∃ z : Bool, (bif bn then false else x2) = z := ⟨_, rfl⟩
  have HA2 := Lib.hid hA2
  clear hA2
  go_upto_region 5 with fail
  refine wq_is 9 [.pointer (some ⟨gu, 2, none⟩), .bool bn, .bool (!bn), .bool (!bn), bif bn then undef else .pointer (some ⟨gb, 2, none⟩), bif bn then undef else .int .i64 nu, bif bn then undef else .bool x2, bif bn then .bool false else .bool x2, .bool A2] ?hxc ?_
  case hxc =>
    refine ⟨?xc0, ?xc1, ?xc2, ?xc3, ?xc4, ?xc5, ?xc6, ?xc7, ?xc8, trivial⟩
    all_goals intro u w' hf hR
    all_goals simp only [z1, z2, z3, z4, puts, Act.put, z5, z6, z7, Nat.reduceAdd, Nat.zero_add]
    case xc1 =>
      simp only [show u 0 = _ from hR 0]
      refine goS ?_
      have q : _ = some (Value.bool bn) := (UB.out.fr hf (fun x => x)).cell 2
      go_simp
      exact ⟨rfl, Fr.refl _ _⟩
    case' xc2 => simp only [show u 1 = _ from hR 1]
    case' xc3 => simp only [show u 2 = _ from hR 2]
    case' xc4 =>
      simp only [show u 3 = _ from hR 3]
      cases bn
      case true => exact skS
    case xc5 =>
      simp only [show u 4 = _ from hR 4, show u 3 = _ from hR 3]
      cases bn
      case true => exact skS
      refine goS ?_
      have q : _ = some (Value.int .i64 nu) := (NB.out.fr hf (fun x => x)).cell 2
      go_simp
      exact ⟨rfl, Fr.refl _ _⟩
    case' xc6 =>
      simp only [show u 5 = _ from hR 5, show u 3 = _ from hR 3]
      cases bn
      case true => exact skS
    case' xc7 =>
      simp only [show u 3 = _ from hR 3, show u 6 = _ from hR 6]
      cases bn
    case xc8 =>
      simp only [show u 7 = _ from hR 7]
      cases bn <;> exact goS (by go_simp; exact ⟨by rw [← HA2.out]; rfl, Fr.refl _ _⟩)
    all_goals
      try simp only [cond]
      refine goS ?_
      go_simp
      exact ⟨rfl, Fr.refl _ _⟩
  intro w' hf
  simp only [z1, z2, z3, z4, puts, Act.put, z5, z6, z7, z8, z9, z10, z11, Nat.reduceAdd, Nat.zero_add]
  have FF := Lib.hid (FF.out.trans hf)
  have NB := Lib.hid (NB.out.fr hf (fun x => x))
  have UB := Lib.hid (UB.out.fr hf (fun x => x))
  clear hf
  have VA2 : Hid ((!bn && x2) = A2) := by
    rw [Hid, ← HA2.out]
    cases bn <;> simp
  clear HA2
  cases vA2 : A2
  case true =>
    rw [vA2] at VA2
    clear vA2
    go_wp2
    go_ret
    refine ⟨_, rfl, ?_, FF.out⟩
    rw [HOK.out, HALG.out, VA2.out]
    simp
  rw [vA2] at VA2
  clear vA2
  obtain ⟨A3, hA3⟩ : ∃ z : Bool, (bif bi then false else x3) = z := ⟨_, rfl⟩
  have HA3 := Lib.hid hA3
  clear hA3
  go_upto_region 6 with fail
  refine wq_is 9 [.pointer (some ⟨gu, 3, none⟩), .bool bi, .bool (!bi), .bool (!bi), bif bi then undef else .pointer (some ⟨gb, 3, none⟩), bif bi then undef else .int .i64 ix, bif bi then undef else .bool x3, bif bi then .bool false else .bool x3, .bool A3] ?hxd ?_
  case hxd =>
    refine ⟨?xd0, ?xd1, ?xd2, ?xd3, ?xd4, ?xd5, ?xd6, ?xd7, ?xd8, trivial⟩
    all_goals intro u w' hf hR
    all_goals simp only [z1, z2, z3, z4, puts, Act.put, z5, z6, z7, Nat.reduceAdd, Nat.zero_add]
    case xd1 =>
      simp only [show u 0 = _ from hR 0]
      refine goS ?_
      have q : _ = some (Value.bool bi) := (UB.out.fr hf (fun x => x)).cell 3
      go_simp
      exact ⟨rfl, Fr.refl _ _⟩
    case' xd2 => simp only [show u 1 = _ from hR 1]
    case' xd3 => simp only [show u 2 = _ from hR 2]
    case' xd4 =>
      simp only [show u 3 = _ from hR 3]
      cases bi
      case true => exact skS
    case xd5 =>
      simp only [show u 4 = _ from hR 4, show u 3 = _ from hR 3]
      cases bi
      case true => exact skS
      refine goS ?_
      have q : _ = some (Value.int .i64 ix) := (NB.out.fr hf (fun x => x)).cell 3
      go_simp
      exact ⟨rfl, Fr.refl _ _⟩
    case' xd6 =>
      simp only [show u 5 = _ from hR 5, show u 3 = _ from hR 3]
      cases bi
      case true => exact skS
    case' xd7 =>
      simp only [show u 3 = _ from hR 3, show u 6 = _ from hR 6]
      cases bi
    case xd8 =>
      simp only [show u 7 = _ from hR 7]
      cases bi <;> exact goS (by go_simp; exact ⟨by rw [← HA3.out]; rfl, Fr.refl _ _⟩)
    all_goals
      try simp only [cond]
      refine goS ?_
      go_simp
      exact ⟨rfl, Fr.refl _ _⟩
  intro w' hf
  simp only [z1, z2, z3, z4, puts, Act.put, z5, z6, z7, z8, z9, z10, z11, Nat.reduceAdd, Nat.zero_add]
  have FF := Lib.hid (FF.out.trans hf)
  have NB := Lib.hid (NB.out.fr hf (fun x => x))
  have UB := Lib.hid (UB.out.fr hf (fun x => x))
  clear hf
  have VA3 : Hid ((!bi && x3) = A3) := by
    rw [Hid, ← HA3.out]
    cases bi <;> simp
  clear HA3
  cases vA3 : A3
  case true =>
    rw [vA3] at VA3
    clear vA3
    go_wp2
    go_ret
    refine ⟨_, rfl, ?_, FF.out⟩
    rw [HOK.out, HALG.out, VA3.out]
    simp
  rw [vA3] at VA3
  clear vA3
  obtain ⟨A4, hA4⟩ : ∃ z : Bool, (bif bt then false else x4) = z := ⟨_, rfl⟩
  have HA4 := Lib.hid hA4
  clear hA4
  go_upto_region 7 with fail
  refine wq_is 9 [.pointer (some ⟨gu, 4, none⟩), .bool bt, .bool (!bt), .bool (!bt), bif bt then undef else .pointer (some ⟨gb, 4, none⟩), bif bt then undef else .string tx, bif bt then undef else .bool x4, bif bt then .bool false else .bool x4, .bool A4] ?hxe ?_
  case hxe =>
    refine ⟨?xe0, ?xe1, ?xe2, ?xe3, ?xe4, ?xe5, ?xe6, ?xe7, ?xe8, trivial⟩
    all_goals intro u w' hf hR
    all_goals simp only [z1, z2, z3, z4, puts, Act.put, z5, z6, z7, Nat.reduceAdd, Nat.zero_add]
    case xe1 =>
      simp only [show u 0 = _ from hR 0]
      refine goS ?_
      have q : _ = some (Value.bool bt) := (UB.out.fr hf (fun x => x)).cell 4
      go_simp
      exact ⟨rfl, Fr.refl _ _⟩
    case' xe2 => simp only [show u 1 = _ from hR 1]
    case' xe3 => simp only [show u 2 = _ from hR 2]
    case' xe4 =>
      simp only [show u 3 = _ from hR 3]
      cases bt
      case true => exact skS
    case xe5 =>
      simp only [show u 4 = _ from hR 4, show u 3 = _ from hR 3]
      cases bt
      case true => exact skS
      refine goS ?_
      have q : _ = some (Value.string tx) := (NB.out.fr hf (fun x => x)).cell 4
      go_simp
      exact ⟨rfl, Fr.refl _ _⟩
    case' xe6 =>
      simp only [show u 5 = _ from hR 5, show u 3 = _ from hR 3]
      cases bt
      case true => exact skS
    case' xe7 =>
      simp only [show u 3 = _ from hR 3, show u 6 = _ from hR 6]
      cases bt
    case xe8 =>
      simp only [show u 7 = _ from hR 7]
      cases bt <;> exact goS (by go_simp; exact ⟨by rw [← HA4.out]; rfl, Fr.refl _ _⟩)
    all_goals
      try simp only [cond]
      refine goS ?_
      go_simp
      exact ⟨rfl, Fr.refl _ _⟩
  intro w' hf
  simp only [z1, z2, z3, z4, puts, Act.put, z5, z6, z7, z8, z9, z10, z11, Nat.reduceAdd, Nat.zero_add]
  have FF := Lib.hid (FF.out.trans hf)
  have NB := Lib.hid (NB.out.fr hf (fun x => x))
  have UB := Lib.hid (UB.out.fr hf (fun x => x))
  clear hf
  have VA4 : Hid ((!bt && x4) = A4) := by
    rw [Hid, ← HA4.out]
    cases bt <;> simp
  clear HA4
  cases vA4 : A4
  case true =>
    rw [vA4] at VA4
    clear vA4
    go_wp2
    go_ret
    refine ⟨_, rfl, ?_, FF.out⟩
    rw [HOK.out, HALG.out, VA4.out]
    simp
  rw [vA4] at VA4
  clear vA4
  obtain ⟨E, hE⟩ : ∃ z : Bool, (bif bo then (!va) else false) = z := ⟨_, rfl⟩
  have HE := Lib.hid hE
  clear hE
  go_upto_region 9 with fail
  refine wq_is 9 [.pointer (some ⟨gu, 1, none⟩), .bool bo, .bool bo, bif bo then .pointer (some ⟨gb, 1, none⟩) else undef, bif bo then .string ow else undef, bif bo then .bool va else undef, bif bo then .bool (!va) else undef, bif bo then .bool (!va) else .bool false, .bool E] ?hxf ?_
  case hxf =>
    refine ⟨?xf0, ?xf1, ?xf2, ?xf3, ?xf4, ?xf5, ?xf6, ?xf7, ?xf8, trivial⟩
    all_goals intro u w' hf hR
    all_goals simp only [z1, z2, z3, z4, puts, Act.put, z5, z6, z7, Nat.reduceAdd, Nat.zero_add]
    case xf1 =>
      simp only [show u 0 = _ from hR 0]
      refine goS ?_
      have q : _ = some (Value.bool bo) := (UB.out.fr hf (fun x => x)).cell 1
      go_simp
      exact ⟨rfl, Fr.refl _ _⟩
    case' xf2 => simp only [show u 1 = _ from hR 1]
    case' xf3 =>
      simp only [show u 2 = _ from hR 2]
      cases bo
      case false => exact skS
    case xf4 =>
      simp only [show u 3 = _ from hR 3, show u 2 = _ from hR 2]
      cases bo
      case false => exact skS
      refine goS ?_
      have q : _ = some (Value.string ow) := (NB.out.fr hf (fun x => x)).cell 1
      go_simp
      exact ⟨rfl, Fr.refl _ _⟩
    case xf5 =>
      simp only [show u 4 = _ from hR 4, show u 2 = _ from hR 2]
      cases bo
      case false => exact skS
      refine goS ?_
      go_simp
      refine (CV.out _).mono ?_
      rintro e w9 ⟨rfl, f9⟩
      exact ⟨rfl, f9⟩
    case' xf6 =>
      simp only [show u 5 = _ from hR 5, show u 2 = _ from hR 2]
      cases bo
      case false => exact skS
    case' xf7 =>
      simp only [show u 2 = _ from hR 2, show u 6 = _ from hR 6]
      cases bo
    case xf8 =>
      simp only [show u 7 = _ from hR 7]
      cases bo <;> exact goS (by go_simp; exact ⟨by rw [← HE.out]; rfl, Fr.refl _ _⟩)
    all_goals
      try simp only [cond]
      refine goS ?_
      go_simp
      exact ⟨rfl, Fr.refl _ _⟩
  intro w' hf
  simp only [z1, z2, z3, z4, puts, Act.put, z5, z6, z7, z8, z9, z10, z11, Nat.reduceAdd, Nat.zero_add]
  have FF := Lib.hid (FF.out.trans hf)
  have NB := Lib.hid (NB.out.fr hf (fun x => x))
  have UB := Lib.hid (UB.out.fr hf (fun x => x))
  clear hf
  have VE : Hid ((bo && !va) = E) := by
    rw [Hid, ← HE.out]
    cases bo <;> simp
  clear HE
  cases vE : E
  case true =>
    rw [vE] at VE
    clear vE
    go_wp2
    go_ret
    refine ⟨_, rfl, ?_, FF.out⟩
    rw [HOK.out, HALG.out, VE.out]
    simp
  rw [vE] at VE
  clear vE
  obtain ⟨G1, hG1⟩ : ∃ z : Bool, (bif bn then (!c1) else false) = z := ⟨_, rfl⟩
  have HG1 := Lib.hid hG1
  clear hG1
  go_upto_region 11 with fail
  refine wq_is 9 [.pointer (some ⟨gu, 2, none⟩), .bool bn, .bool bn, bif bn then .pointer (some ⟨gb, 2, none⟩) else undef, bif bn then .int .i64 nu else undef, bif bn then .bool c1 else undef, bif bn then .bool (!c1) else undef, bif bn then .bool (!c1) else .bool false, .bool G1] ?hxg ?_
  case hxg =>
    refine ⟨?xg0, ?xg1, ?xg2, ?xg3, ?xg4, ?xg5, ?xg6, ?xg7, ?xg8, trivial⟩
    all_goals intro u w' hf hR
    all_goals simp only [z1, z2, z3, z4, puts, Act.put, z5, z6, z7, Nat.reduceAdd, Nat.zero_add]
    case xg1 =>
      simp only [show u 0 = _ from hR 0]
      refine goS ?_
      have q : _ = some (Value.bool bn) := (UB.out.fr hf (fun x => x)).cell 2
      go_simp
      exact ⟨rfl, Fr.refl _ _⟩
    case' xg2 => simp only [show u 1 = _ from hR 1]
    case' xg3 =>
      simp only [show u 2 = _ from hR 2]
      cases bn
      case false => exact skS
    case xg4 =>
      simp only [show u 3 = _ from hR 3, show u 2 = _ from hR 2]
      cases bn
      case false => exact skS
      refine goS ?_
      have q : _ = some (Value.int .i64 nu) := (NB.out.fr hf (fun x => x)).cell 2
      go_simp
      exact ⟨rfl, Fr.refl _ _⟩
    case xg5 =>
      simp only [show u 4 = _ from hR 4, show u 2 = _ from hR 2]
      cases bn
      case false => exact skS
      refine goS ?_
      go_simp
      refine (CN.out _).mono ?_
      rintro e w9 ⟨rfl, rfl⟩
      exact ⟨rfl, Fr.refl _ _⟩
    case' xg6 =>
      simp only [show u 5 = _ from hR 5, show u 2 = _ from hR 2]
      cases bn
      case false => exact skS
    case' xg7 =>
      simp only [show u 2 = _ from hR 2, show u 6 = _ from hR 6]
      cases bn
    case xg8 =>
      simp only [show u 7 = _ from hR 7]
      cases bn <;> exact goS (by go_simp; exact ⟨by rw [← HG1.out]; rfl, Fr.refl _ _⟩)
    all_goals
      try simp only [cond]
      refine goS ?_
      go_simp
      exact ⟨rfl, Fr.refl _ _⟩
  intro w' hf
  simp only [z1, z2, z3, z4, puts, Act.put, z5, z6, z7, z8, z9, z10, z11, Nat.reduceAdd, Nat.zero_add]
  have FF := Lib.hid (FF.out.trans hf)
  have NB := Lib.hid (NB.out.fr hf (fun x => x))
  have UB := Lib.hid (UB.out.fr hf (fun x => x))
  clear hf
  have VG1 : Hid ((bn && !c1) = G1) := by
    rw [Hid, ← HG1.out]
    cases bn <;> simp
  clear HG1
  cases vG1 : G1
  case true =>
    rw [vG1] at VG1
    clear vG1
    go_wp2
    go_ret
    refine ⟨_, rfl, ?_, FF.out⟩
    rw [HOK.out, HALG.out, VG1.out]
    simp
  rw [vG1] at VG1
  clear vG1
  obtain ⟨G2, hG2⟩ : ∃ z : Bool, (bif bi then (!c2) else false) = z := ⟨_, rfl⟩
  have HG2 := Lib.hid hG2
  clear hG2
  go_upto_region 12 with fail
  refine wq_is 11 [.pointer (some ⟨gu, 3, none⟩), .bool bi, .bool bi, bif bi then .pointer (some ⟨gb, 3, none⟩) else undef, bif bi then .int .i64 ix else undef, bif bi then .pointer (some ⟨gu, 5, none⟩) else undef, bif bi then .int .i64 mo else undef, bif bi then .bool c2 else undef, bif bi then .bool (!c2) else undef, bif bi then .bool (!c2) else .bool false, .bool G2] ?hxh ?_
  case hxh =>
    refine ⟨?xh0, ?xh1, ?xh2, ?xh3, ?xh4, ?xh5, ?xh6, ?xh7, ?xh8, ?xh9, ?xh10, trivial⟩
    all_goals intro u w' hf hR
    all_goals simp only [z1, z2, z3, z4, puts, Act.put, z5, z6, z7, Nat.reduceAdd, Nat.zero_add]
    case xh1 =>
      simp only [show u 0 = _ from hR 0]
      refine goS ?_
      have q : _ = some (Value.bool bi) := (UB.out.fr hf (fun x => x)).cell 3
      go_simp
      exact ⟨rfl, Fr.refl _ _⟩
    case' xh2 => simp only [show u 1 = _ from hR 1]
    case' xh3 =>
      simp only [show u 2 = _ from hR 2]
      cases bi
      case false => exact skS
    case xh4 =>
      simp only [show u 3 = _ from hR 3, show u 2 = _ from hR 2]
      cases bi
      case false => exact skS
      refine goS ?_
      have q : _ = some (Value.int .i64 ix) := (NB.out.fr hf (fun x => x)).cell 3
      go_simp
      exact ⟨rfl, Fr.refl _ _⟩
    case' xh5 =>
      simp only [show u 2 = _ from hR 2]
      cases bi
      case false => exact skS
    case xh6 =>
      simp only [show u 5 = _ from hR 5, show u 2 = _ from hR 2]
      cases bi
      case false => exact skS
      refine goS ?_
      have q : _ = some (Value.int .i64 mo) := (UB.out.fr hf (fun x => x)).cell 5
      go_simp
      exact ⟨rfl, Fr.refl _ _⟩
    case xh7 =>
      simp only [show u 4 = _ from hR 4, show u 6 = _ from hR 6, show u 2 = _ from hR 2]
      cases bi
      case false => exact skS
      refine goS ?_
      go_simp
      refine (CI.out _).mono ?_
      rintro e w9 ⟨rfl, rfl⟩
      exact ⟨rfl, Fr.refl _ _⟩
    case' xh8 =>
      simp only [show u 7 = _ from hR 7, show u 2 = _ from hR 2]
      cases bi
      case false => exact skS
    case' xh9 =>
      simp only [show u 2 = _ from hR 2, show u 8 = _ from hR 8]
      cases bi
    case xh10 =>
      simp only [show u 9 = _ from hR 9]
      cases bi <;> exact goS (by go_simp; exact ⟨by rw [← HG2.out]; rfl, Fr.refl _ _⟩)
    all_goals
      try simp only [cond]
      refine goS ?_
      go_simp
      exact ⟨rfl, Fr.refl _ _⟩
  intro w' hf
  simp only [z1, z2, z3, z4, puts, Act.put, z5, z6, z7, z8, z9, z10, z11, Nat.reduceAdd, Nat.zero_add]
  have FF := Lib.hid (FF.out.trans hf)
  have NB := Lib.hid (NB.out.fr hf (fun x => x))
  have UB := Lib.hid (UB.out.fr hf (fun x => x))
  clear hf
  have VG2 : Hid ((bi && !c2) = G2) := by
    rw [Hid, ← HG2.out]
    cases bi <;> simp
  clear HG2
  cases vG2 : G2
  case true =>
    rw [vG2] at VG2
    clear vG2
    go_wp2
    go_ret
    refine ⟨_, rfl, ?_, FF.out⟩
    rw [HOK.out, HALG.out, VG2.out]
    simp
  rw [vG2] at VG2
  clear vG2
  obtain ⟨H, hH⟩ : ∃ z : Bool, (bif bt then (!wo) else false) = z := ⟨_, rfl⟩
  have HH := Lib.hid hH
  clear hH
  go_upto_region 14 with fail
  refine wq_is 9 [.pointer (some ⟨gu, 4, none⟩), .bool bt, .bool bt, bif bt then .pointer (some ⟨gb, 4, none⟩) else undef, bif bt then .string tx else undef, bif bt then .bool wo else undef, bif bt then .bool (!wo) else undef, bif bt then .bool (!wo) else .bool false, .bool H] ?hxi ?_
  case hxi =>
    refine ⟨?xi0, ?xi1, ?xi2, ?xi3, ?xi4, ?xi5, ?xi6, ?xi7, ?xi8, trivial⟩
    all_goals intro u w' hf hR
    all_goals simp only [z1, z2, z3, z4, puts, Act.put, z5, z6, z7, Nat.reduceAdd, Nat.zero_add]
    case xi1 =>
      simp only [show u 0 = _ from hR 0]
      refine goS ?_
      have q : _ = some (Value.bool bt) := (UB.out.fr hf (fun x => x)).cell 4
      go_simp
      exact ⟨rfl, Fr.refl _ _⟩
    case' xi2 => simp only [show u 1 = _ from hR 1]
    case' xi3 =>
      simp only [show u 2 = _ from hR 2]
      cases bt
      case false => exact skS
    case xi4 =>
      simp only [show u 3 = _ from hR 3, show u 2 = _ from hR 2]
      cases bt
      case false => exact skS
      refine goS ?_
      have q : _ = some (Value.string tx) := (NB.out.fr hf (fun x => x)).cell 4
      go_simp
      exact ⟨rfl, Fr.refl _ _⟩
    case xi5 =>
      simp only [show u 4 = _ from hR 4, show u 2 = _ from hR 2]
      cases bt
      case false => exact skS
      refine goS ?_
      go_simp
      refine (CW.out _).mono ?_
      rintro e w9 ⟨rfl, f9⟩
      exact ⟨rfl, f9⟩
    case' xi6 =>
      simp only [show u 5 = _ from hR 5, show u 2 = _ from hR 2]
      cases bt
      case false => exact skS
    case' xi7 =>
      simp only [show u 2 = _ from hR 2, show u 6 = _ from hR 6]
      cases bt
    case xi8 =>
      simp only [show u 7 = _ from hR 7]
      cases bt <;> exact goS (by go_simp; exact ⟨by rw [← HH.out]; rfl, Fr.refl _ _⟩)
    all_goals
      try simp only [cond]
      refine goS ?_
      go_simp
      exact ⟨rfl, Fr.refl _ _⟩
  intro w' hf
  simp only [z1, z2, z3, z4, puts, Act.put, z5, z6, z7, z8, z9, z10, z11, Nat.reduceAdd, Nat.zero_add]
  have FF := Lib.hid (FF.out.trans hf)
  have NB := Lib.hid (NB.out.fr hf (fun x => x))
  have UB := Lib.hid (UB.out.fr hf (fun x => x))
  clear hf
  have VH : Hid ((bt && !wo) = H) := by
    rw [Hid, ← HH.out]
    cases bt <;> simp
  clear HH
  cases vH : H
  case true =>
    rw [vH] at VH
    clear vH
    go_wp2
    go_ret
    refine ⟨_, rfl, ?_, FF.out⟩
    rw [HOK.out, HALG.out, VH.out]
    simp
  rw [vH] at VH
  clear vH
  go_wp2
  go_ret
  refine ⟨_, rfl, ?_, FF.out⟩
  rw [HOK.out, HALG.out, VA1.out, VA2.out, VA3.out, VA4.out, VE.out, VG1.out, VG2.out, VH.out]
  rfl
theorem Check_any (n : NameV) (w : World) (hU : UsaT w) (ho : n.owner.size ≤ 1099511627776) (ht : n.text.size ≤ 1099511627776) : Calls Tryz.prog 186 #[.agg n.cells.toArray] w (Checked w n) := by
  obtain ⟨kd, ow, nu, ix, tx⟩ := n
  simp only at ho ht
  by_cases hk : 1 ≤ kd ∧ kd ≤ 20
  · obtain ⟨k, rfl⟩ : ∃ k : Nat, kd = (k : Int) := ⟨kd.toNat, by omega⟩
    have hk' : 1 ≤ k ∧ k ≤ 20 := by omega
    have hl : usaL.length = 21 := by decide
    obtain ⟨u, hu⟩ : ∃ u, usaL[k]? = some u := ⟨_, List.getElem?_eq_getElem (show k < usaL.length by omega)⟩
    obtain ⟨wd, bo, bn, bi, bt, mo⟩ := u
    exact Check_all k ow nu ix tx wd bo bn bi bt mo w hU hk' hu ho ht
  · have hf : (decide (1 ≤ kd) && decide (kd ≤ 20)) = false := by
      rw [Bool.and_eq_false_iff, decide_eq_false_iff_not, decide_eq_false_iff_not]
      omega
    have HOK : Hid (okNm ⟨kd, ow, nu, ix, tx⟩ = false) := by
      simp only [Hid, okNm]
      rw [hf]
      rfl
    have KI : Hid (∀ w, Calls Tryz.prog 267 #[.int .i64 kd] w (SameW w (.bool false))) := fun w => by
      have h := isKind_any kd w
      rw [hf] at h
      exact h
    clear hU hk ho ht hf
    go_enter Tryz.func186, Tryz.ntmps186
    go_wp2_with (refine wpList_boxBlk rfl 144 (.tmp 0) rfl #[.int .i64 kd, .string ow, .int .i64 nu, .int .i64 ix, .string tx] rfl ?_)
    intro w1 n1
    have F1 := Lib.hid n1.fr
    have c0 : w1.cell? ⟨w.heap.size, 0, none⟩ = some (.int .i64 kd) := n1.blk.cell 0
    clear n1
    generalize w.heap.size = gb at *
    go_wp2_with fail
    refine (KI.out _).mono ?_
    rintro e w' ⟨rfl, rfl⟩
    go_wp2
    go_ret
    exact ⟨11, rfl, by rw [HOK.out]; rfl, F1.out⟩

end Go.Proofs.YtmpokappjogehaaGreatDoor
