/- State: changes step by step; the reference's Apply (written by genSbK.py). -/
import Derived.Test.YtpnchdgplpdefaaDoorSbJ
namespace Go.Proofs.YtpnchdgplpdefaaDoor
open Go.RowKit Go.Shelf

/-! ### Plain steps -/
def nextC (c : CV) (L : List Ent) : List Ent := if c.absent then delL c.nm L else insL c.nm c.value L
def runC (xs : List CV) (L : List Ent) : List Ent := xs.foldl (fun l c => nextC c l) L
def stepC (c : CV) (L : List Ent) : List Ent := if okNm c.nm then nextC c L else L
structure SmallC (c : CV) : Prop where
  owner : c.nm.owner.size ≤ 100
  text : c.nm.text.size ≤ 100
  value : c.value.size ≤ 200
structure GoodK (k : Nat) (L : List Ent) : Prop where
  sort : SortL L
  len : L.length ≤ k
  ok : ∀ x ∈ L, okNm x.1 = true
  owner : ∀ x ∈ L, x.1.owner.size ≤ 100
  text : ∀ x ∈ L, x.1.text.size ≤ 100
  value : ∀ x ∈ L, x.2.size ≤ 200
theorem GoodK.nil : GoodK 0 [] := ⟨List.Pairwise.nil, Nat.le_refl _, (fun _ h => by cases h), (fun _ h => by cases h), (fun _ h => by cases h), (fun _ h => by cases h)⟩
theorem bytesL_le : ∀ L : List Ent, (∀ x ∈ L, x.2.size ≤ 200) → bytesL L ≤ 200 * L.length
  | [], _ => by simp [bytesL]
  | x :: L, h => by
    have h1 := bytesL_le L (fun y hy => h y (List.mem_cons_of_mem _ hy))
    have h2 := h x (List.mem_cons_self ..)
    simp only [bytesL, List.map_cons, List.sum_cons, List.length_cons] at h1 ⊢
    omega
theorem GoodK.good {k : Nat} {L : List Ent} (h : GoodK k L) (hk : k ≤ 60000) : GoodL L :=
  ⟨h.sort, fun x hx => by have := h.owner x hx; omega, by have := h.len; omega, by have := bytesL_le L h.value; have := h.len; omega, h.ok⟩
theorem GoodK.more {k k' : Nat} {L : List Ent} (h : GoodK k L) (hk : k ≤ k') : GoodK k' L := ⟨h.sort, by have := h.len; omega, h.ok, h.owner, h.text, h.value⟩
theorem GoodK.next {k : Nat} {L : List Ent} {c : CV} (h : GoodK k L) (hc : SmallC c) (ho : okNm c.nm = true) : GoodK (k + 1) (nextC c L) := by
  unfold nextC
  cases c.absent
  · rw [if_neg (by decide)]
    have hm := (insL_sort (nm := c.nm) (v := c.value) h.sort).2
    refine ⟨(insL_sort h.sort).1, by have := (insL_size (nm := c.nm) (v := c.value) L).1; have := h.len; omega, fun x hx => ?_, fun x hx => ?_, fun x hx => ?_, fun x hx => ?_⟩
    · rcases hm x hx with rfl | h1
      · exact ho
      · exact h.ok x h1
    · rcases hm x hx with rfl | h1
      · exact hc.owner
      · exact h.owner x h1
    · rcases hm x hx with rfl | h1
      · exact hc.text
      · exact h.text x h1
    · rcases hm x hx with rfl | h1
      · exact hc.value
      · exact h.value x h1
  · rw [if_pos rfl]
    have hm := (delL_sub (nm := c.nm) L).subset
    exact ⟨delL_sort h.sort, by have := (delL_size (nm := c.nm) L).1; have := h.len; omega, fun x hx => h.ok x (hm hx), fun x hx => h.owner x (hm hx), fun x hx => h.text x (hm hx), fun x hx => h.value x (hm hx)⟩
theorem GoodK.step {k : Nat} {L : List Ent} {c : CV} (h : GoodK k L) (hc : SmallC c) : GoodK (k + 1) (stepC c L) := by
  unfold stepC
  cases ho : okNm c.nm
  · exact h.more (by omega)
  · exact h.next hc ho
theorem SmallC.name {c : CV} (h : SmallC c) : GoodN c.nm := ⟨by have := h.owner; omega, by have := h.text; omega⟩
theorem cutS_size (s : ByteArray) (k : Nat) : (cutS s (k : Int)).size ≤ k := by
  rw [cutS, ByteArray.size_extract]
  omega
theorem CV.cut_small (c : CV) : SmallC c.cut := ⟨cutS_size _ 100, cutS_size _ 100, cutS_size _ 200⟩
theorem runC_take {xs : List CV} {k : Nat} {c : CV} (h : xs[k]? = some c) (L : List Ent) : runC (xs.take (k + 1)) L = nextC c (runC (xs.take k) L) := by
  rw [runC, List.take_add_one, h, Option.toList_some, List.foldl_append]
  rfl

/-! ### The reference's Apply -/
def RApplied (w : World) (L : List Ent) (xs : List CV) (e : Ending) (w' : World) : Prop := ∃ p k, e = .returned (.tuple #[p, .int .i64 k]) ∧ Fr Nothing w w' ∧
  (((∀ c ∈ xs, okNm c.nm = true) ∧ k = 0 ∧ RowE w' p (runC xs L)) ∨ ((∃ c ∈ xs, okNm c.nm = false) ∧ k = 12 ∧ p = .slice none 0 0))
def RInv (w : World) (L : List Ent) (xs : List CV) (n m : Nat) (l i : Value) (wr : World) : Prop := ∃ k : Nat, k ≤ n ∧ i = .int .i64 (k : Int) ∧ RowE wr l (runC (xs.take k) L) ∧ GoodK (m + k) (runC (xs.take k) L) ∧ (∀ c ∈ xs.take k, okNm c.nm = true) ∧ Fr Nothing w wr

set_option maxRecDepth 100000 in
set_option maxHeartbeats 4000000 in
theorem rApply_any (L : List Ent) (xs : List CV) (n m : Nat) (A : Option Addr) (c0 : Nat) (S : Nat → Prop) (rv : Value) (w : World) (hR : RowE w rv L) (hG : GoodK m L) (hD : CL w S A n xs) (hX : ∀ c ∈ xs, SmallC c) (hm : m + n ≤ 60000) :
    Calls Tryd.prog 27 #[rv, .slice A n c0] w (RApplied w L xs) := by
  have HD := Lib.hid hD
  have HX := Lib.hid hX
  have HL := Lib.hid hD.len
  have HS : Hid (RInv w L xs n m rv (.int .i64 0) w) := ⟨0, by omega, rfl, hR, hG, (fun c hc => by simp at hc), Fr.refl _ _⟩
  clear hD hX hR hG
  go_enter Tryd.func27, Tryd.ntmps27
  go_wp2
  go_loopw [0, 6] (fun l i wr => RInv w L xs n m l i wr) (fun _ i _ => n - (intOf i).toNat)
  case atStart => exact HS.out
  case round =>
    obtain ⟨k, hk, rfl, hR, hG, hO, hF⟩ := hrel
    have FR := Lib.hid hF
    have RR := Lib.hid hR
    have GG := Lib.hid hG
    have OO := Lib.hid hO
    obtain ⟨A1, n1, c1, rfl, H1, _⟩ := own_slice hR
    clear hR hG hO hF HS
    by_cases hlt : k < n
    · have hI : (k : Int) < (n : Int) := by omega
      have hI0 : (0 : Int) ≤ (k : Int) := by omega
      have t0 : decide ((k : Int) < (n : Int)) = true := decide_eq_true hI
      obtain ⟨ad, c, rfl, hc, hcell⟩ := (HD.out.fr0 FR.out).at_ hlt
      have HCE := Lib.hid hcell
      have CO := Lib.hid c.one
      have HT := Lib.hid (runC_take hc L)
      have SC : Hid (SmallC c) := HX.out c (List.mem_of_getElem? hc)
      have HCM : Hid (xs[k]? = some c) := hc
      have GL : Hid (GoodL (runC (xs.take k) L)) := GG.out.good (by omega)
      generalize runC (xs.take k) L = Lk at *
      clear hcell hc
      go_wp2_with (refine wpList_load_add rfl 42 (.tmp 18) rfl _ rfl c.cells _ ?hcc Tryd.underlying42 rfl infoC (Held.go ?hold))
      case hcc => exact HCE.out
      unfold Held
      go_wp2_with (refine wpList_allocBlk rfl 42 rfl zeroC zvC #[.int .i64 0, .string ByteArray.empty, .int .i64 0, .int .i64 0, .string ByteArray.empty, .string ByteArray.empty, .bool false] rfl ?_)
      intro wa na
      have NA := Lib.hid na
      clear na
      generalize hg7 : wr.heap.size = g7 at *
      have HG7 := Lib.hid hg7
      clear hg7
      have BA : Hid (Blk wa g7 42 #[.int .i64 0, .string ByteArray.empty, .int .i64 0, .int .i64 0, .string ByteArray.empty, .string ByteArray.empty, .bool false]) := by have h := NA.out.blk; rw [HG7.out] at h; exact h
      go_wp2_with (refine wpList_storeBlk rfl 42 (.tmp 7) _ rfl g7 c.cells.toArray rfl rfl _ _ BA.out infoC rfl CO.out ?_)
      intro wb bb fb
      have B6 : Hid (Blk wb g7 42 c.cells.toArray) := bb
      have FB : Hid (Fr Nothing wr wb) := NA.out.fr.then_ fb (fun i hi e => by have e' : i = g7 := e; have := HG7.out; omega)
      clear bb fb NA BA HCE
      have RB : Hid (RowE wb (.slice A1 n1 c1) Lk) := RR.out.fr0 FB.out
      have cA : wb.cell? { block := g7, off := 6 } = some (.bool c.absent) := B6.out.cell 6
      have cV : wb.cell? { block := g7, off := 5 } = some (.string c.value) := B6.out.cell 5
      have CN : Hid (∀ j x, c.nm.cells[j]? = some x → wb.cell? ((⟨g7, 0, none⟩ : Addr).add j) = some x) := fun j x hx => by
        rw [Addr.add_mid, Nat.zero_add, B6.out.cell j, List.getElem?_toArray, CV.cells, List.getElem?_append_left (List.getElem?_eq_some_iff.1 hx).1]
        exact hx
      have FW : Hid (Fr Nothing w wb) := FR.out.trans FB.out
      cases hab : c.absent
      · rw [hab] at cA
        have HN : Hid (nextC c Lk = insL c.nm c.value Lk) := by simp only [Hid, nextC, hab]; rfl
        have CW : Hid (∀ w', Fr Nothing wb w' → Calls Tryd.prog 48 #[.slice A1 n1 c1, .agg c.nm.cells.toArray, .string c.value] w' (RWithed w' Lk c.nm c.value)) := fun w' f => rWith_any _ _ _ _ _ (RB.out.fr0 f) GL.out SC.out.name
        have HV : Hid (c.value.size ≤ 65536) := by have := SC.out.value; simp only [Hid]; omega
        clear hab
        go_wp2_with (refine wpList_load_add rfl 40 (.tmp 32) rfl ⟨g7, 0, none⟩ rfl c.nm.cells _ ?hcn Tryd.underlying40 rfl infoN (Held.go ?hold2))
        case hcn => exact CN.out
        unfold Held
        go_wp2_with fail
        refine (CW.out _ (Fr.refl _ _)).mono ?_
        rintro e w3 ⟨p, q, rfl, f3, hcase⟩
        have F3 : Hid (Fr Nothing w w3) := FW.out.trans f3
        cases hok : okNm c.nm
        · obtain ⟨rfl, rfl⟩ : q = 12 ∧ p = .slice none 0 0 := by
            rcases hcase with ⟨h, _⟩ | ⟨_, h⟩ | ⟨h, _⟩
            · rw [hok] at h; cases h
            · exact h
            · rw [hok] at h; cases h
          have HOK := Lib.hid hok
          clear hcase hok f3
          go_wp2
          go_ret2
          exact ⟨_, 12, rfl, F3.out, .inr ⟨⟨c, List.mem_of_getElem? HCM.out, HOK.out⟩, rfl, rfl⟩⟩
        · obtain ⟨rfl, hp⟩ : q = 0 ∧ RowE w3 p (nextC c Lk) := by
            rw [HN.out]
            rcases hcase with ⟨_, _, h⟩ | ⟨h, _⟩ | ⟨_, h, _⟩
            · exact h
            · rw [hok] at h; cases h
            · exact absurd HV.out (by omega)
          have HOK := Lib.hid hok
          have HP := Lib.hid hp
          clear hcase hok f3 hp
          go_wp2
          go_roundw
          case rel =>
            refine ⟨k + 1, by omega, by go_num, ?_, ?_, fun x hx => ?_, F3.out⟩
            · rw [HT.out]; exact HP.out
            · rw [HT.out]; exact (GG.out.next SC.out HOK.out).more (by omega)
            · rw [List.take_add_one, HCM.out, Option.toList_some, List.mem_append, List.mem_singleton] at hx
              rcases hx with hx | rfl
              · exact OO.out x hx
              · exact HOK.out
          case measure => simp [intOf]; omega
      · rw [hab] at cA
        have HN : Hid (nextC c Lk = delL c.nm Lk) := by simp only [Hid, nextC, hab]; rfl
        have CW : Hid (∀ w', Fr Nothing wb w' → Calls Tryd.prog 47 #[.slice A1 n1 c1, .agg c.nm.cells.toArray] w' (RWithouted w' Lk c.nm)) := fun w' f => rWithout_any _ _ _ _ (RB.out.fr0 f) GL.out SC.out.name
        clear hab
        go_wp2_with (refine wpList_load_add rfl 40 (.tmp 25) rfl ⟨g7, 0, none⟩ rfl c.nm.cells _ ?hcn2 Tryd.underlying40 rfl infoN (Held.go ?hold3))
        case hcn2 => exact CN.out
        unfold Held
        go_wp2_with fail
        refine (CW.out _ (Fr.refl _ _)).mono ?_
        rintro e w3 ⟨p, q, rfl, f3, hcase⟩
        have F3 : Hid (Fr Nothing w w3) := FW.out.trans f3
        cases hok : okNm c.nm
        · obtain ⟨rfl, rfl⟩ : q = 12 ∧ p = .slice none 0 0 := by
            rcases hcase with ⟨h, _⟩ | ⟨_, h⟩
            · rw [hok] at h; cases h
            · exact h
          have HOK := Lib.hid hok
          clear hcase hok f3
          go_wp2
          go_ret2
          exact ⟨_, 12, rfl, F3.out, .inr ⟨⟨c, List.mem_of_getElem? HCM.out, HOK.out⟩, rfl, rfl⟩⟩
        · obtain ⟨rfl, hp⟩ : q = 0 ∧ RowE w3 p (nextC c Lk) := by
            rw [HN.out]
            rcases hcase with ⟨_, h⟩ | ⟨h, _⟩
            · exact h
            · rw [hok] at h; cases h
          have HOK := Lib.hid hok
          have HP := Lib.hid hp
          clear hcase hok f3 hp
          go_wp2
          go_roundw
          case rel =>
            refine ⟨k + 1, by omega, by go_num, ?_, ?_, fun x hx => ?_, F3.out⟩
            · rw [HT.out]; exact HP.out
            · rw [HT.out]; exact (GG.out.next SC.out HOK.out).more (by omega)
            · rw [List.take_add_one, HCM.out, Option.toList_some, List.mem_append, List.mem_singleton] at hx
              rcases hx with hx | rfl
              · exact OO.out x hx
              · exact HOK.out
          case measure => simp [intOf]; omega
    · obtain rfl : k = n := by omega
      have t0 : decide ((k : Int) < (k : Int)) = false := decide_eq_false (by omega)
      go_wp2
      go_ret2
      have hx : xs.take k = xs := List.take_of_length_le (by have := HL.out; omega)
      rw [hx] at RR OO
      exact ⟨_, 0, rfl, FR.out, .inl ⟨OO.out, rfl, RR.out⟩⟩
end Go.Proofs.YtpnchdgplpdefaaDoor
