/- State: the program's Apply (written by genSbQ.py). -/
import Derived.Test.YtpnchdgplpdefaaDoorSbO
namespace Go.Proofs.YtpnchdgplpdefaaDoor
open Go.RowKit Go.Shelf

theorem zvCh (w : World) : (zeroValue 38).run Tryd.prog w = .ok zeroC w := by kernel_rfl
def Applied (w : World) (L : List Ent) (xs : List CV) (e : Ending) (w' : World) : Prop := ∃ p k, e = .returned (.tuple #[.pointer p, .int .i64 k]) ∧ Fr Nothing w w' ∧
  (((∀ c ∈ xs, okNm c.nm = true) ∧ k = 0 ∧ ∃ s', p = some ⟨s', 0, none⟩ ∧ StL w' s' (runC xs L)) ∨ ((∃ c ∈ xs, okNm c.nm = false) ∧ k = 12 ∧ p = none))
def PInv (w : World) (L : List Ent) (xs : List CV) (n m : Nat) (s i : Value) (wr : World) : Prop := ∃ (k s' : Nat), k ≤ n ∧ s = .pointer (some ⟨s', 0, none⟩) ∧ i = .int .i64 (k : Int) ∧ StL wr s' (runC (xs.take k) L) ∧ GoodK (m + k) (runC (xs.take k) L) ∧ (∀ c ∈ xs.take k, okNm c.nm = true) ∧ Fr Nothing w wr

set_option maxRecDepth 100000 in
set_option maxHeartbeats 4000000 in
theorem Apply_any (L : List Ent) (xs : List CV) (n m : Nat) (A : Option Addr) (c0 : Nat) (S : Nat → Prop) (s : Nat) (w : World) (hS : StL w s L) (hU : UsaT w) (hG : GoodK m L) (hD : CL w S A n xs) (hX : ∀ c ∈ xs, SmallC c) (hm : m + n ≤ 60000) :
    Calls Tryd.prog 25 #[.pointer (some ⟨s, 0, none⟩), .slice A n c0] w (Applied w L xs) := by
  have HD := Lib.hid hD
  have HU := Lib.hid hU
  have HX := Lib.hid hX
  have HL := Lib.hid hD.len
  have HS : Hid (PInv w L xs n m (.pointer (some ⟨s, 0, none⟩)) (.int .i64 0) w) := ⟨0, s, by omega, rfl, rfl, hS, hG, (fun c hc => by simp at hc), Fr.refl _ _⟩
  clear hD hX hS hG hU
  go_enter Tryd.func25, Tryd.ntmps25
  go_wp2
  go_loopw [0, 13] (fun s i wr => PInv w L xs n m s i wr) (fun _ i _ => n - (intOf i).toNat)
  case atStart => exact HS.out
  case round =>
    obtain ⟨k, s1, hk, rfl, rfl, hR, hG, hO, hF⟩ := hrel
    have FR := Lib.hid hF
    have RR := Lib.hid hR
    have GG := Lib.hid hG
    have OO := Lib.hid hO
    clear hR hG hO hF HS
    by_cases hlt : k < n
    · have hI : (k : Int) < (n : Int) := by omega
      have hI0 : (0 : Int) ≤ (k : Int) := by omega
      have t0 : decide ((k : Int) < (n : Int)) = true := decide_eq_true hI
      obtain ⟨ad, c, rfl, hc, hcell⟩ := (HD.out.fr0 FR.out).at_ hlt
      have HCE := Lib.hid hcell
      have CO := Lib.hid c.one
      have HT := Lib.hid (runC_take hc L)
      have SC : Hid (SmallC c) := HX.out c (List.mem_of_getElem? hc)
      have HCM : Hid (xs[k]? = some c) := hc
      have GL : Hid (GoodL (runC (xs.take k) L)) := GG.out.good (by omega)
      generalize runC (xs.take k) L = Lk at *
      clear hcell hc
      go_wp2_with (refine wpList_load_add rfl 38 (.tmp 15) rfl _ rfl c.cells _ ?hcc Tryd.underlying38 rfl infoCh (Held.go ?hold))
      case hcc => exact HCE.out
      unfold Held
      go_wp2_with (refine wpList_allocBlk rfl 38 rfl zeroC zvCh #[.int .i64 0, .string ByteArray.empty, .int .i64 0, .int .i64 0, .string ByteArray.empty, .string ByteArray.empty, .bool false] rfl ?_)
      intro wa na
      have NA := Lib.hid na
      clear na
      generalize hg7 : wr.heap.size = g7 at *
      have HG7 := Lib.hid hg7
      clear hg7
      have BA : Hid (Blk wa g7 38 #[.int .i64 0, .string ByteArray.empty, .int .i64 0, .int .i64 0, .string ByteArray.empty, .string ByteArray.empty, .bool false]) := by have h := NA.out.blk; rw [HG7.out] at h; exact h
      go_wp2_with (refine wpList_storeBlk rfl 38 (.tmp 7) _ rfl g7 c.cells.toArray rfl rfl _ _ BA.out infoCh rfl CO.out ?_)
      intro wb bb fb
      have B6 : Hid (Blk wb g7 38 c.cells.toArray) := bb
      have FB : Hid (Fr Nothing wr wb) := NA.out.fr.then_ fb (fun i hi e => by have e' : i = g7 := e; have := HG7.out; omega)
      clear bb fb NA BA HCE
      have RB : Hid (StL wb s1 Lk) := RR.out.fr0 FB.out
      have cA : wb.cell? { block := g7, off := 6 } = some (.bool c.absent) := B6.out.cell 6
      have cV : wb.cell? { block := g7, off := 5 } = some (.string c.value) := B6.out.cell 5
      have CN : Hid (∀ j x, c.nm.cells[j]? = some x → wb.cell? ((⟨g7, 0, none⟩ : Addr).add j) = some x) := fun j x hx => by
        rw [Addr.add_mid, Nat.zero_add, B6.out.cell j, List.getElem?_toArray, CV.cells, List.getElem?_append_left (List.getElem?_eq_some_iff.1 hx).1]
        exact hx
      have FW : Hid (Fr Nothing w wb) := FR.out.trans FB.out
      cases hab : c.absent
      · rw [hab] at cA
        have HN : Hid (nextC c Lk = insL c.nm c.value Lk) := by simp only [Hid, nextC, hab]; rfl
        have CW : Hid (∀ w', Fr Nothing wb w' → Calls Tryd.prog 31 #[.pointer (some ⟨s1, 0, none⟩), .agg c.nm.cells.toArray, .string c.value] w' (Withed w' Lk c.nm c.value)) := fun w' f => With_any _ _ _ _ _ (RB.out.fr0 f) (HU.out.fr0 (FW.out.trans f)) GL.out SC.out.name
        have HV : Hid (c.value.size ≤ 65536) := by have := SC.out.value; simp only [Hid]; omega
        clear hab
        go_wp2_with (refine wpList_load_add rfl 36 (.tmp 28) rfl ⟨g7, 0, none⟩ rfl c.nm.cells _ ?hcn1 Tryd.underlying36 rfl infoName (Held.go ?holdn1))
        case hcn1 => exact CN.out
        unfold Held
        go_wp2_with fail
        refine (CW.out _ (Fr.refl _ _)).mono ?_
        rintro e w3 ⟨p, q, rfl, f3, hcase⟩
        have F3 : Hid (Fr Nothing w w3) := FW.out.trans f3
        cases hok : okNm c.nm
        · obtain ⟨rfl, rfl⟩ : q = 12 ∧ p = none := by
            rcases hcase with ⟨h, _⟩ | ⟨_, h⟩ | ⟨h, _⟩
            · rw [hok] at h; cases h
            · exact h
            · rw [hok] at h; cases h
          have HOK := Lib.hid hok
          clear hcase hok f3
          go_wp2
          go_ret2
          exact ⟨_, 12, rfl, F3.out, .inr ⟨⟨c, List.mem_of_getElem? HCM.out, HOK.out⟩, rfl, rfl⟩⟩
        · obtain ⟨rfl, s2, rfl, hp⟩ : q = 0 ∧ ∃ s2, p = some ⟨s2, 0, none⟩ ∧ StL w3 s2 (nextC c Lk) := by
            rw [HN.out]
            rcases hcase with ⟨_, _, h⟩ | ⟨h, _⟩ | ⟨_, h, _⟩
            · exact h
            · rw [hok] at h; cases h
            · exact absurd HV.out (by omega)
          have HOK := Lib.hid hok
          have HP := Lib.hid hp
          clear hcase hok f3 hp
          go_wp2
          go_roundw
          case rel =>
            refine ⟨k + 1, s2, by omega, rfl, by go_num, ?_, ?_, fun x hx => ?_, F3.out⟩
            · rw [HT.out]; exact HP.out
            · rw [HT.out]; exact (GG.out.next SC.out HOK.out).more (by omega)
            · rw [List.take_add_one, HCM.out, Option.toList_some, List.mem_append, List.mem_singleton] at hx
              rcases hx with hx | rfl
              · exact OO.out x hx
              · exact HOK.out
          case measure => simp [intOf]; omega
      · rw [hab] at cA
        have HN : Hid (nextC c Lk = delL c.nm Lk) := by simp only [Hid, nextC, hab]; rfl
        have CW : Hid (∀ w', Fr Nothing wb w' → Calls Tryd.prog 32 #[.pointer (some ⟨s1, 0, none⟩), .agg c.nm.cells.toArray] w' (Withouted w' Lk c.nm)) := fun w' f => Without_any _ _ _ _ (RB.out.fr0 f) (HU.out.fr0 (FW.out.trans f)) GL.out SC.out.name
        have HV : Hid (c.value.size ≤ 65536) := by have := SC.out.value; simp only [Hid]; omega
        clear hab
        go_wp2_with (refine wpList_load_add rfl 36 (.tmp 21) rfl ⟨g7, 0, none⟩ rfl c.nm.cells _ ?hcn2 Tryd.underlying36 rfl infoName (Held.go ?holdn2))
        case hcn2 => exact CN.out
        unfold Held
        go_wp2_with fail
        refine (CW.out _ (Fr.refl _ _)).mono ?_
        rintro e w3 ⟨p, q, rfl, f3, hcase⟩
        have F3 : Hid (Fr Nothing w w3) := FW.out.trans f3
        cases hok : okNm c.nm
        · obtain ⟨rfl, rfl⟩ : q = 12 ∧ p = none := by
            rcases hcase with ⟨h, _⟩ | ⟨_, h⟩
            · rw [hok] at h; cases h
            · exact h
          have HOK := Lib.hid hok
          clear hcase hok f3
          go_wp2
          go_ret2
          exact ⟨_, 12, rfl, F3.out, .inr ⟨⟨c, List.mem_of_getElem? HCM.out, HOK.out⟩, rfl, rfl⟩⟩
        · obtain ⟨rfl, s2, rfl, hp⟩ : q = 0 ∧ ∃ s2, p = some ⟨s2, 0, none⟩ ∧ StL w3 s2 (nextC c Lk) := by
            rw [HN.out]
            rcases hcase with ⟨_, h⟩ | ⟨h, _⟩
            · exact h
            · rw [hok] at h; cases h
          have HOK := Lib.hid hok
          have HP := Lib.hid hp
          clear hcase hok f3 hp
          go_wp2
          go_roundw
          case rel =>
            refine ⟨k + 1, s2, by omega, rfl, by go_num, ?_, ?_, fun x hx => ?_, F3.out⟩
            · rw [HT.out]; exact HP.out
            · rw [HT.out]; exact (GG.out.next SC.out HOK.out).more (by omega)
            · rw [List.take_add_one, HCM.out, Option.toList_some, List.mem_append, List.mem_singleton] at hx
              rcases hx with hx | rfl
              · exact OO.out x hx
              · exact HOK.out
          case measure => simp [intOf]; omega
    · obtain rfl : k = n := by omega
      have t0 : decide ((k : Int) < (k : Int)) = false := decide_eq_false (by omega)
      go_wp2
      go_ret2
      have hx : xs.take k = xs := List.take_of_length_le (by have := HL.out; omega)
      rw [hx] at RR OO
      exact ⟨_, 0, rfl, FR.out, .inl ⟨OO.out, rfl, s1, rfl, RR.out⟩⟩
end Go.Proofs.YtpnchdgplpdefaaDoor
