/- Values of the law's lists: V, as cells; 'short'. -/
import Derived.Test.YtfopfhdijdefiaaCodecF
namespace Go.Proofs.Ytfopfhdijdefiaa
open Go.RowKit

structure VV where
  kind : Nat
  n : Int
  is : Bool
  s : ByteArray
  most : Int

def VV.cells (v : VV) : List Value := [.int .u8 v.kind, .int .i64 v.n, .bool v.is, .string v.s, .int .i64 v.most]
structure VV.ok (v : VV) : Prop where
  kind : v.kind < 256
  n1 : -9223372036854775808 ≤ v.n
  n2 : v.n ≤ 9223372036854775807
  s : v.s.size ≤ 9223372036854775807
  m1 : -9223372036854775808 ≤ v.most
  m2 : v.most ≤ 9223372036854775807
def vcells (l : List VV) : List Value := l.flatMap VV.cells

theorem vcells_length (l : List VV) : (vcells l).length = l.length * 5 := by
  induction l with
  | nil => rfl
  | cons v l ih => simp only [vcells, List.flatMap_cons, List.length_append] at ih ⊢; rw [ih]; simp [VV.cells]; omega

theorem vcells_at (l : List VV) (k j : Nat) (v : VV) (h : l[k]? = some v) (hj : j < 5) : (vcells l)[k * 5 + j]? = v.cells[j]? := by
  induction l generalizing k with
  | nil => simp at h
  | cons x l ih =>
    simp only [vcells, List.flatMap_cons]
    cases k with
    | zero =>
      simp at h
      subst h
      rw [Nat.zero_mul, Nat.zero_add, List.getElem?_append_left (by simp [VV.cells]; omega)]
    | succ k =>
      rw [List.getElem?_append_right (by simp [VV.cells]; omega)]
      have := ih k (by simpa using h)
      rw [← this]
      congr 1
      simp [VV.cells]
      omega

/-- The five cells of an element. -/
theorem Rd.vat {w : World} {S : Nat → Prop} {A : Option Addr} {n k : Nat} {l : List VV} {v : VV} (h : Rd w S 5 A n (vcells l)) (hk : l[k]? = some v) :
    ∃ ad, A = some ad ∧ S ad.block ∧ ∀ j u, v.cells[j]? = some u → w.cell? ((ad.add (k * 5)).add j) = some u := by
  have hl : l.length * 5 = n * 5 := by rw [← vcells_length]; exact h.1
  have hkl : k < l.length := (List.getElem?_eq_some_iff.1 hk).1
  obtain ⟨ad, e, hb, hc⟩ := h.2 (by omega)
  refine ⟨ad, e, hb, fun j u hu => ?_⟩
  rw [add_of_add]
  refine hc _ u ?_
  have hj : j < 5 := by
    have := (List.getElem?_eq_some_iff.1 hu).1
    simpa [VV.cells] using this
  rw [vcells_at l k j v hk hj]
  exact hu

theorem info_V : (Try.prog.info? 47).map (fun i => (i.zero, i.size, i.bytes)) = some (some (.agg #[.int .u8 0, .int .i64 0, .bool false, .string ⟨#[]⟩, .int .i64 0]), 5, 48) := by kernel_rfl

abbrev GrewV (w : World) (v : Value) (w' : World) (v' : Value) (l : List VV) : Prop := Grew 47 5 w v w' v' l.length (vcells l)
def SomeGrewV (w : World) (l : List VV) (e : Ending) (w' : World) : Prop := ∃ v', e = .returned v' ∧ GrewV w (.slice none 0 0) w' v' l

def VV.cutS (v : VV) : VV := { v with s := v.s.extract 0 (min v.s.size 200) }
def shortK (l : List VV) (k : Nat) : List VV := (l.take k).map VV.cutS
def shortL (l : List VV) : List VV := shortK l 40
theorem shortK_length (l : List VV) (k : Nat) : (shortK l k).length ≤ k := by simp [shortK]; omega

theorem vcells_snoc (l : List VV) (v : VV) : vcells (l ++ [v]) = vcells l ++ v.cells := by simp [vcells]

theorem cut_snoc (l : List VV) (k : Nat) (v : VV) (h : l[k]? = some v) : shortK l (k + 1) = shortK l k ++ [v.cutS] := by
  unfold shortK
  have hk : k < l.length := (List.getElem?_eq_some_iff.1 h).1
  have he : l[k] = v := (List.getElem?_eq_some_iff.1 h).2
  rw [List.take_succ_eq_append_getElem hk, he]
  simp

set_option maxRecDepth 100000 in
set_option maxHeartbeats 1000000 in
theorem short_any (A : Option Addr) (n c : Nat) (l : List VV) (w : World) (S : Nat → Prop) (hr : Rd w S 5 A n (vcells l)) (hok : ∀ v ∈ l, v.ok) (hn : n ≤ 9223372036854775807) :
    Calls Try.prog 15 #[.slice A n c] w (SomeGrewV w (shortL l)) := by
  obtain ⟨i0, hi, hz0, hz1, hz2⟩ := info_parts info_V
  have hlen : l.length = n := by have := hr.1; rw [vcells_length] at this; omega
  have HL := Lib.hid hlen
  clear hlen
  have HR := Lib.hid hr
  have HK := Lib.hid hok
  clear hr hok
  go_enter Try.func15, Try.ntmps15
  go_wp2
  go_loopw [3, 4] (fun v' i wr => ∃ k : Nat, k ≤ n ∧ k ≤ 40 ∧ i = .int .i64 k ∧ GrewV w (.slice none 0 0) wr v' (shortK l k)) (fun _ i _ => n - (intOf i).toNat)
  case atStart => exact ⟨0, Nat.zero_le _, Nat.zero_le _, rfl, Grew.start (World.ownsRow_nil _ _ _ _)⟩
  case round =>
    obtain ⟨k, hk, hk40, rfl, hf⟩ := hrel
    have HF := Lib.hid hf
    clear hf
    by_cases hlt : k < n ∧ k < 40
    · obtain ⟨hlt1, hlt2⟩ := hlt
      obtain ⟨v, hv⟩ : ∃ v, l[k]? = some v := ⟨_, List.getElem?_eq_getElem (by rw [HL.out]; exact hlt1)⟩
      obtain ⟨ad, rfl, _, hc⟩ := HR.out.vat hv
      have HV := Lib.hid hv
      have hvs := (HK.out v (List.mem_of_getElem? hv)).s
      have hw : ∀ j u, v.cells[j]? = some u → wr.cell? ((ad.add (k * 5)).add j) = some u := fun j u hu => HF.out.fr0.cellSome (hc j u hu) (fun x => x)
      have c0 : wr.cell? (ad.add (k * 5)) = _ := hw 0 _ rfl
      have c1 : wr.cell? ⟨(ad.add (k * 5)).block, (ad.add (k * 5)).off + 1, none⟩ = _ := hw 1 _ rfl
      have c2 : wr.cell? ⟨(ad.add (k * 5)).block, (ad.add (k * 5)).off + 2, none⟩ = _ := hw 2 _ rfl
      have c3 : wr.cell? ⟨(ad.add (k * 5)).block, (ad.add (k * 5)).off + 3, none⟩ = _ := hw 3 _ rfl
      have c4 : wr.cell? ⟨(ad.add (k * 5)).block, (ad.add (k * 5)).off + 4, none⟩ = _ := hw 4 _ rfl
      have hd : decide ((k : Int) < 40) = true := by simp; omega
      have hmin1 : min (v.s.size : Int) 200 = ((min v.s.size 200 : Nat) : Int) := min_cast v.s.size 200
      have h1 : min v.s.size 200 ≤ v.s.size := by omega
      generalize hm : min v.s.size 200 = m at hmin1 h1
      have HM := Lib.hid hm
      clear hc hw hv hm
      go_wp2_with (at_builtin; refine wpList_app1 _ rfl _ _ 32 rfl 47 i0 _ 5 48 Try.underlying32 hi hz0 hz1 hz2 rfl (by omega) _ _ _ rfl (HF.out.own.alloc _) 1 _ _ (by simp) rfl rfl ?c1 ?c2 (by omega) ?_)
      case c1 => simp [Value.oneCell']
      case c2 => have := shortK_length l k; omega
      intro v2 w2 hg2
      have HG : Hid (GrewV w (.slice none 0 0) w2 v2 (shortK l (k + 1))) := by
        have := (HF.out.behind ((Fr.refl _ _).alloc _)).trans hg2
        rw [cut_snoc l k v HV.out]
        simp only [Hid, GrewV, vcells_snoc, List.length_append, List.length_singleton]
        rw [show v.cutS.cells = [.int .u8 v.kind, .int .i64 v.n, .bool v.is, .string (v.s.extract 0 m), .int .i64 v.most] by rw [← HM.out]; rfl]
        exact this
      clear hg2 HF
      go_wp2
      go_roundw
      case rel => exact ⟨k + 1, by omega, by omega, by go_num, HG.out⟩
      case measure => simp [intOf]; omega
    · have HE : Hid (shortK l k = shortL l) := by
        simp only [Hid, shortL, shortK]
        rcases Nat.lt_or_ge k 40 with h | h
        · rw [List.take_of_length_le (by rw [HL.out]; omega), List.take_of_length_le (by rw [HL.out]; omega)]
        · rw [show k = 40 by omega]
      go_wp2
      all_goals
        go_ret
        exact ⟨_, rfl, by rw [← HE.out]; exact HF.out⟩
end Go.Proofs.Ytfopfhdijdefiaa
