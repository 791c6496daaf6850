/- 'write': values written one after the other. -/
import Derived.Test.YtfopfhdijdefiaaCodecV
namespace Go.Proofs.Ytfopfhdijdefiaa
open Go.RowKit

def wV (st : List UInt8 × Int) (v : VV) : List UInt8 × Int :=
  if v.kind % 4 = 0 then wNumber st v.n else if v.kind % 4 = 1 then wSigned st v.n else if v.kind % 4 = 2 then wFlag st v.is else wText st (strL v.s)
def writeL (st : List UInt8 × Int) (l : List VV) : List UInt8 × Int := l.foldl wV st
def writeK (st : List UInt8 × Int) (l : List VV) (k : Nat) : List UInt8 × Int := writeL st (l.take k)

theorem writeK_snoc (st : List UInt8 × Int) (l : List VV) (k : Nat) (v : VV) (h : l[k]? = some v) : writeK st l (k + 1) = wV (writeK st l k) v := by
  have hk : k < l.length := (List.getElem?_eq_some_iff.1 h).1
  have he : l[k] = v := (List.getElem?_eq_some_iff.1 h).2
  unfold writeK writeL
  rw [List.take_succ_eq_append_getElem hk, he, List.foldl_append]
  rfl

theorem wV_length (st : List UInt8 × Int) (v : VV) : (wV st v).1.length ≤ st.1.length + (10 + v.s.size) := by
  unfold wV wNumber wSigned wFlag wText
  have h1 := enc_length v.n.toNat
  have h2 := enc_length (zig v.n)
  have h3 := enc_length (strL v.s).length
  have h4 := strL_length v.s
  repeat' split
  all_goals simp
  all_goals omega

theorem writeK_length (st : List UInt8 × Int) (l : List VV) (B : Nat) (hB : ∀ v ∈ l, v.s.size ≤ B) : ∀ k, k ≤ l.length → (writeK st l k).1.length ≤ st.1.length + k * (10 + B)
  | 0, _ => by simp [writeK, writeL]
  | k + 1, hk => by
    have ih := writeK_length st l B hB k (by omega)
    have hv : l[k]? = some l[k] := List.getElem?_eq_getElem (by omega)
    rw [writeK_snoc st l k _ hv]
    have h1 := wV_length (writeK st l k) l[k]
    have h2 := hB l[k] (List.getElem_mem _)
    rw [Nat.succ_mul]
    omega

set_option maxRecDepth 100000 in
set_option maxHeartbeats 2000000 in
theorem write_any (g : Nat) (v0 : Value) (l0 : List UInt8) (f0 : Int) (A : Option Addr) (n c : Nat) (l : List VV) (w : World) (S : Nat → Prop) (h : Wr w g v0 l0 f0) (hr : Rd w S 5 A n (vcells l)) (hd : ∀ k, S k → ¬ WrT g v0 k)
    (hok : ∀ v ∈ l, v.ok) (hB : ∀ v ∈ l, v.s.size ≤ 16777226) (hn : n ≤ 1000) (hl : l0.length ≤ 1000000000) :
    Calls Try.prog 17 #[.pointer (some ⟨g, 0, none⟩), .slice A n c] w (WrPost w g v0 (writeL (l0, f0) l)) := by
  have hlen : l.length = n := by have := hr.1; rw [vcells_length] at this; omega
  have HL := Lib.hid hlen
  clear hlen
  have HR := Lib.hid hr
  have HK := Lib.hid hok
  have HB := Lib.hid (writeK_length (l0, f0) l 16777226 hB)
  have HW := Lib.hid h
  have HD := Lib.hid hd
  have HBB := Lib.hid hB
  clear hr hok h hd hB
  go_enter Try.func17, Try.ntmps17
  go_wp2
  go_loopw [4] (fun i wr => ∃ k : Nat, k ≤ n ∧ i = .int .i64 k ∧ ∃ v', WrStep w g v0 wr v' (writeK (l0, f0) l k)) (fun i _ => n - (intOf i).toNat)
  case atStart => exact ⟨0, Nat.zero_le _, rfl, v0, by simpa [writeK, writeL] using WrStep.start HW.out⟩
  case round =>
    obtain ⟨k, hk, rfl, v1, hs⟩ := hrel
    have HS := Lib.hid hs
    clear hs
    by_cases hlt : k < n
    · obtain ⟨v, hv⟩ : ∃ v, l[k]? = some v := ⟨_, List.getElem?_eq_getElem (by rw [HL.out]; exact hlt)⟩
      obtain ⟨ad, rfl, hsb, hc⟩ := HR.out.vat hv
      have HV := Lib.hid (writeK_snoc (l0, f0) l k v hv)
      have hvo := HK.out v (List.mem_of_getElem? hv)
      have hvb := HBB.out v (List.mem_of_getElem? hv)
      have hbl := HB.out k (by rw [HL.out]; omega)
      have HWr := Lib.hid HS.out.wr
      have hkb : (writeK (l0, f0) l k).1.length ≤ 1099511627776 := by
        have : k * (10 + 16777226) ≤ 1000 * (10 + 16777226) := Nat.mul_le_mul_right _ (by omega)
        omega
      have hw : ∀ j u, v.cells[j]? = some u → wr.cell? ((ad.add (k * 5)).add j) = some u := fun j u hu => HS.out.fr.cellSome (hc j u hu) (by rw [block_of_add, block_of_add]; exact HD.out _ hsb)
      have c0 : wr.cell? (ad.add (k * 5)) = _ := hw 0 _ rfl
      have c1 : wr.cell? ⟨(ad.add (k * 5)).block, (ad.add (k * 5)).off + 1, none⟩ = _ := hw 1 _ rfl
      have c2 : wr.cell? ⟨(ad.add (k * 5)).block, (ad.add (k * 5)).off + 2, none⟩ = _ := hw 2 _ rfl
      have c3 : wr.cell? ⟨(ad.add (k * 5)).block, (ad.add (k * 5)).off + 3, none⟩ = _ := hw 3 _ rfl
      have hkind := hvo.kind
      clear hc hw hv hbl
      generalize writeK (l0, f0) l k = st at HS HV HWr hkb
      have hcase : v.kind % 4 = 0 ∨ v.kind % 4 = 1 ∨ v.kind % 4 = 2 ∨ v.kind % 4 = 3 := by omega
      rcases hcase with hm | hm | hm | hm
      · have t0 : ((v.kind : Int) % 4 == 0) = true := beq_iff_eq.2 (by omega)
        have HM := Lib.hid hm
        clear hm
        go_wp2_with fail
        refine (wNumber_any g v1 st.1 st.2 v.n _ HWr.out hkb hvo.n2).mono ?_
        rintro e w2 ⟨rfl, v2, h2⟩
        have H2 : Hid (∃ v', WrStep w g v0 w2 v' (writeK (l0, f0) l (k + 1))) := ⟨v2, by rw [HV.out]; simp only [wV, if_pos HM.out]; exact HS.out.trans h2⟩
        clear h2
        go_wp2
        go_roundw
        case rel => exact ⟨k + 1, by omega, by go_num, H2.out⟩
        case measure => simp [intOf]; omega
      · have t0 : ((v.kind : Int) % 4 == 0) = false := beq_eq_false_iff_ne.2 (by omega)
        have t1 : ((v.kind : Int) % 4 == 1) = true := beq_iff_eq.2 (by omega)
        have HM := Lib.hid hm
        clear hm
        go_wp2_with fail
        refine (wSigned_any g v1 st.1 st.2 v.n _ HWr.out hkb hvo.n2 hvo.n1).mono ?_
        rintro e w2 ⟨rfl, v2, h2⟩
        have H2 : Hid (∃ v', WrStep w g v0 w2 v' (writeK (l0, f0) l (k + 1))) := ⟨v2, by rw [HV.out]; simp only [wV, HM.out]; exact HS.out.trans h2⟩
        clear h2
        go_wp2
        go_roundw
        case rel => exact ⟨k + 1, by omega, by go_num, H2.out⟩
        case measure => simp [intOf]; omega
      · have t0 : ((v.kind : Int) % 4 == 0) = false := beq_eq_false_iff_ne.2 (by omega)
        have t1 : ((v.kind : Int) % 4 == 1) = false := beq_eq_false_iff_ne.2 (by omega)
        have t2 : ((v.kind : Int) % 4 == 2) = true := beq_iff_eq.2 (by omega)
        have HM := Lib.hid hm
        clear hm
        go_wp2_with fail
        refine (wFlag_any g v1 st.1 st.2 v.is _ HWr.out hkb).mono ?_
        rintro e w2 ⟨rfl, v2, h2⟩
        have H2 : Hid (∃ v', WrStep w g v0 w2 v' (writeK (l0, f0) l (k + 1))) := ⟨v2, by rw [HV.out]; simp only [wV, HM.out]; exact HS.out.trans h2⟩
        clear h2
        go_wp2
        go_roundw
        case rel => exact ⟨k + 1, by omega, by go_num, H2.out⟩
        case measure => simp [intOf]; omega
      · have t0 : ((v.kind : Int) % 4 == 0) = false := beq_eq_false_iff_ne.2 (by omega)
        have t1 : ((v.kind : Int) % 4 == 1) = false := beq_eq_false_iff_ne.2 (by omega)
        have t2 : ((v.kind : Int) % 4 == 2) = false := beq_eq_false_iff_ne.2 (by omega)
        have HM := Lib.hid hm
        clear hm
        go_wp2_with fail
        refine (wText_any g v1 st.1 st.2 v.s _ HWr.out hkb (by omega)).mono ?_
        rintro e w2 ⟨rfl, v2, h2⟩
        have H2 : Hid (∃ v', WrStep w g v0 w2 v' (writeK (l0, f0) l (k + 1))) := ⟨v2, by rw [HV.out]; simp only [wV, HM.out]; exact HS.out.trans h2⟩
        clear h2
        go_wp2
        go_roundw
        case rel => exact ⟨k + 1, by omega, by go_num, H2.out⟩
        case measure => simp [intOf]; omega
    · have HE : Hid (writeK (l0, f0) l k = writeL (l0, f0) l) := by
        simp only [Hid, writeK]
        rw [List.take_of_length_le (by rw [HL.out]; omega)]
      go_wp2
      go_end0
      exact ⟨rfl, v1, by rw [← HE.out]; exact HS.out⟩
end Go.Proofs.Ytfopfhdijdefiaa
