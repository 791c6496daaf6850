/- State: the order of names, plainly. -/
import Derived.Test.YtpnchdgplpdefaaGreatDoorEnSaM
import Derived.Test.YtpnchdgplpdefaaGreatDoorEnSaA
import Derived.Laws.Strings
namespace Go.Proofs.YtpnchdgplpdefaaGreatDoor
open Go.RowKit Go.Shelf
attribute [local go_sem] Oper.semAt_some
def ptrsW {w : World} (ys : List (NdW w)) : List Value := ys.map (fun y => ptrN y.1)
def Listed (w : World) (t : Tr) (r : Ending) (w' : World) : Prop := ∃ v, ∃ L : List Nd, r = .returned v ∧ Grew 66 1 w (.slice none 0 0) w' v t.size (L.map ptrN) ∧ L.map (fun x : Nd => (x.nm, x.v)) = t.toL ∧ ∀ x ∈ L, NdAt w' x
set_option maxRecDepth 100000 in
set_option maxHeartbeats 2000000 in
theorem list_any (s : Nat) (t : Tr) (w : World) (hS0 : StH w s t) (hz0 : t.size ≤ 1048576) : Calls Tryz.prog 75 #[.pointer (some ⟨s, 0, none⟩)] w (fun r w' => Listed w t r w') := by
  obtain ⟨i0, hi0, hz0', hz1, hz2⟩ := info_parts infoNdP
  have CN := Lib.hid (fun w => nodes_any (some ⟨s, 0, none⟩) w)
  have HZ := Lib.hid hz0
  have HS := Lib.hid hS0
  clear hS0 hz0
  refine (callsIn_wide (n := 6)).1 (callsIn_of_wp_marks Tryz.func75 rfl trivial (wpIn_wide.2 ?_) rfl)
  simp only [Tryz.ntmps75, List.size_toArray, List.length_cons, List.length_nil, Nat.reduceAdd, Nat.reduceSub, Array.replicate_succ, Array.replicate_zero, List.push_toArray, List.append_toArray, List.nil_append, List.cons_append]
  have CL0 : Hid (Calls Tryz.prog 22 #[.pointer (some ⟨s, 0, none⟩)] w (SameW w (.int .i64 (t.size : Nat)))) := Len_any w s t HS.out
  go_wp2_with fail
  refine CL0.out.mono ?_
  rintro e wz ⟨rfl, rfl⟩
  have hz := HZ.out
  clear CL0
  go_wp2_with (at_make; refine wpList_make_own _ rfl _ _ 136 rfl 0 66 i0 (.pointer none) 1 Tryz.underlying136 hi0 hz0' hz1 _ _ _ t.size rfl rfl rfl ?c1 ?c2 (Nat.zero_le _) ?_)
  case c1 => rw [hz2]; omega
  case c2 => unfold maxLen; omega
  intro wa ra ga
  have FA : Hid (Fr Nothing w wa) := (Fr.grown ga).mono (fun _ _ e => by cases e)
  have RA := Lib.hid ra
  have SZa : Hid (w.heap.size < wa.heap.size) := own_lt ra rfl
  have SZ0 : Sz w w.heap.size := Nat.le_refl _
  clear ra ga hz
  generalize w.heap.size = g0 at *
  go_wp2_with (refine wpList_allocBlk rfl 136 rfl (.slice none 0 0) zvNds #[.slice none 0 0] rfl ?_)
  intro wb nb
  have FB : Hid (Fr Nothing w wb) := FA.out.trans nb.fr
  have RB := Lib.hid (own_fr RA.out nb.fr (fun _ _ x => x))
  have BB := Lib.hid nb.blk
  have SZ1 : Sz w wa.heap.size := FA.out.size
  have NE : Hid (g0 < wa.heap.size) := SZa.out
  clear nb FA RA SZa
  generalize wa.heap.size = g2 at *
  go_wp2_with (refine wpList_store1 rfl 136 (.tmp 3) _ rfl g2 (.slice (some ⟨g0, 0, none⟩) 0 t.size) rfl rfl rfl _ _ BB.out infoNds ?_)
  intro w2 b2 f2
  have B2 := Lib.hid b2
  have F2 : Hid (Fr Nothing w w2) := FB.out.then_ f2 (fun i hi e => by have e' : i = g2 := e; have := SZ1; unfold Sz at this; omega)
  have O2 := Lib.hid (own_fr RB.out f2 (fun k hk e => by
    have e' : k = g2 := e
    simp [Value.ownBlock] at hk
    have := NE.out
    omega))
  have OL : Hid (∀ k, (Value.slice (some ⟨g0, 0, none⟩) 0 t.size).ownBlock = some k → w.heap.size ≤ k ∧ k ≠ g2) := fun k hk => by
    simp [Value.ownBlock] at hk
    subst hk
    exact ⟨SZ0, by have := NE.out; omega⟩
  clear b2 f2 FB RB BB
  go_wp2_with fail
  refine (CN.out _).mono ?_
  rintro r w3 ⟨rfl, f3, b3⟩
  have F3 := Lib.hid (F2.out.trans f3)
  have B3 := Lib.hid (B2.out.fr f3 (fun x => x))
  have O3 := Lib.hid (own_fr O2.out f3 (fun _ _ x => x))
  have G3 := Lib.hid b3
  have LT : Hid (g2 < w3.heap.size) := B3.out.lt
  clear f3 b3 F2 B2 O2
  generalize w2.heap.size = gs at *
  obtain ⟨a3, hs3, hn3⟩ := HS.out.fr0 F3.out
  obtain ⟨L, hL⟩ := Ord.of hn3
  have LL := Lib.hid hL.toL
  have LZ : Hid (L.length = t.size) := by
    have h := congrArg List.length LL.out
    have h2 : L.length = t.size := by simpa [Tr.toL_length] using h
    exact h2
  have HO := Lib.hid hL
  have HS3 := Lib.hid hs3
  clear hs3 hn3 hL
  go_wp2_with fail
  refine (wpIn_wide (n := 6)).1 ?_
  refine wpIn_rangeFunc_ownG rfl (by omega) (gf := 53) (lb := #[.pointer (some ⟨gs, 0, none⟩)]) rfl trivial (enters_of Tryz.func53 (by kernel_rfl) rfl)
    (nodes_stops 5 gs s a3 t w3 L HO.out G3.out HS3.out) (fun h k => h.trans k) (fun W l o o' _ ho hc _ => KN.put W l o o' ho hc) (Below.refl _ _) (fun _ => rfl)
    (RowI w w3 g2 136 66 1 (fun ys : List (NdW w3) => ys.length) (ptrsW (w := w3))) (fun _ _ _ => False) (RowI.ownFrom LT.out F3.out.size) (fun _ _ _ _ _ h _ _ => h.elim)
    ⟨F3.out, KN.refl _, _, B3.out, O3.out, OL.out⟩ ?a1 ?assign ?body ?done ?stop
  case assign =>
    intro l x W K hK
    gi_wp2
    exact hK
  case body =>
    rintro l' pre x W hI hlt
    have HI := Lib.hid hI
    have HL := Lib.hid hlt
    obtain ⟨_, hkn, ⟨v, b11, hrow, hlies⟩⟩ := hI
    obtain ⟨A1, m1, c1, rfl, H1, H2⟩ := own_slice hrow
    have HROW := Lib.hid hrow
    have HLI := Lib.hid hlies
    have B11 := Lib.hid b11
    have c11 := b11.cell 0
    simp only [List.getElem?_toArray, List.getElem?_cons_zero] at c11
    have MX := Lib.hid (x.2.kn hkn).mid
    obtain ⟨⟨gx, nx, vx⟩, hx⟩ := x
    simp only at MX ⊢
    clear b11 hrow hlies hlt hkn
    gi_wp2_with (refine wpListIn_round1 (opLoads 136) rfl (by kernel_rfl) ?_)
    go_wp2_with (at_builtin; refine wpList_app1 _ rfl _ _ 136 rfl 66 i0 (.pointer none) 1 8 Tryz.underlying136 hi0 hz0' hz1 hz2 rfl (by omega) _ _ _ rfl HROW.out 1 _ _ rfl rfl rfl ?e1 ?e2 (by omega) ?_)
    case e1 => simp [Value.oneCell']
    case e2 => have := HL.out; have := LZ.out; have := HZ.out; omega
    intro v2 y2 hG
    have KG := Lib.hid hG
    clear hG
    have B11y : Hid (Blk y2 g2 136 #[.slice A1 m1 c1]) := B11.out.fr KG.out.fr (fun e => (HLI.out _ e).2 rfl)
    obtain ⟨A2, m2, c2, rfl, _, _⟩ := own_slice KG.out.own
    go_wp2_with (refine wpList_store1 rfl 136 (.tmp 3) _ rfl g2 (.slice A2 m2 c2) rfl rfl rfl _ _ B11y.out infoNds ?_)
    intro y3 b3 f3
    refine ⟨?_, rfl⟩
    have KG' : Grew 66 1 W (.slice A1 m1 c1) y2 (.slice A2 m2 c2) ((pre ++ [(⟨⟨gx, nx, vx⟩, hx⟩ : NdW w3)]).length) (ptrsW (pre ++ [(⟨⟨gx, nx, vx⟩, hx⟩ : NdW w3)])) := by
      have h := KG.out
      rw [List.length_append, ptrsW, List.map_append]
      exact h
    have KEY := RowI.step (v := .slice A1 m1 c1) (v2 := .slice A2 m2 c2) HI.out LT.out F3.out.size SZ1 (by decide) (by decide) B11.out HROW.out HLI.out (Fr.refl _ _) KG' f3 b3
    exact ⟨KEY.1, KEY.2.1, KEY.2.2⟩
  case done =>
    rintro D xs W hD rfl hI hK
    obtain ⟨hf, hkn, ⟨v, b11, hrow, hlies⟩⟩ := hI
    obtain ⟨A1, m1, c1, rfl, H1, H2⟩ := own_slice hrow
    have PF : Fr (fun k => some k = some D) W (W.putObj D (.deferred none)) := Fr.grown (grownBy_putObj' W D _)
    have KD := Lib.hid hK
    have JF : Hid (Fr Nothing w (W.putObj D (.deferred none))) := hf.then_ PF (fun i hi e => by have e' : i = D := (by simpa using e); have := F3.out.size; have := hD; omega)
    have JK : Hid (KN w3 (W.putObj D (.deferred none))) := hkn.trans (KN.put W D _ _ hK rfl)
    have KO : Hid ((W.putObj D (.deferred none)).ownsRow 0 66 1 (.slice A1 m1 c1) ((fun ys : List (NdW w3) => ys.length) xs) ((ptrsW (w := w3)) xs)) :=
      own_fr hrow PF (fun k hk e => by
            have e' : k = D := by simpa using e
            subst e'
            obtain ⟨c, f, ho⟩ := own_block hrow hk
            rw [KD.out] at ho
            cases ho)
    have HLI : Hid (∀ k, (Value.slice A1 m1 c1).ownBlock = some k → w.heap.size ≤ k) := fun k hk => (hlies k hk).1
    have c11 := b11.cell 0
    simp only [List.getElem?_toArray, List.getElem?_cons_zero] at c11
    clear PF hf b11 hrow hlies hD hK hkn
    go_wp2
    refine ⟨by simp, .inl ⟨_, _, rfl, run_takeDeferred KD.out, ?_⟩⟩
    refine ⟨_, results_tmp Tryz.results75 _ _ _, ?_⟩
    refine ⟨_, xs.map (·.1), rfl, ⟨?_, JF.out.weak, fun k hk => .inr (HLI.out k hk)⟩, ?_, fun x hx => ?_⟩
    · have h := KO.out
      rw [LZ.out] at h
      rw [List.map_map]
      exact h
    · rw [List.map_map]
      exact LL.out
    · obtain ⟨y, _, rfl⟩ := List.mem_map.1 hx
      exact y.2.kn JK.out
  case stop =>
    rintro D cd pre W hD _ h
    exact h.elim
end Go.Proofs.YtpnchdgplpdefaaGreatDoor
namespace Go.Proofs.YtpnchdgplpdefaaGreatDoor
open Go.RowKit
structure IsCmp {α : Type} (c : α → α → Int) : Prop where
 eq : ∀ a b, c a b = 0 → a = b
 refl : ∀ a, c a a = 0
 anti : ∀ a b, c b a = - c a b
 trans : ∀ a b d, c a b < 0 → c b d < 0 → c a d < 0
def cThen (x y : Int) : Int := if x = 0 then y else x
theorem IsCmp.lex {α β : Type} {c : α → α → Int} {d : β → β → Int} (h : IsCmp c) (k : IsCmp d) : IsCmp (fun (a b : α × β) => cThen (c a.1 b.1) (d a.2 b.2)) where
 eq a b e := by
  unfold cThen at e
  split at e
  ·rename_i h1
   exact Prod.ext (h.eq _ _ h1) (k.eq _ _ e)
  ·contradiction
 refl _ := by simp [cThen, h.refl, k.refl]
 anti a b := by
  have := h.anti a.1 b.1
  have := k.anti a.2 b.2
  unfold cThen
  split <;> split <;> omega
 trans a b e h1 h2 := by
  have ha := h.anti
  by_cases e1 : c a.1 b.1 = 0
  ·by_cases e2 : c b.1 e.1 = 0
   ·have e3 : c a.1 e.1 = 0 := by rw [h.eq _ _ e1, h.eq _ _ e2]; exact h.refl _
    simp only [cThen, e1, e2, e3, if_true] at *
    exact k.trans _ _ _ h1 h2
   ·simp only [cThen, e1, e2, if_true, if_false] at h1 h2
    have e3 : c a.1 e.1 = c b.1 e.1 := by rw [h.eq _ _ e1]
    simp only [cThen, e3, e2, if_false]
    exact h2
  ·by_cases e2 : c b.1 e.1 = 0
   ·simp only [cThen, e1, e2, if_true, if_false] at h1 h2
    have e3 : c a.1 e.1 = c a.1 b.1 := by rw [h.eq _ _ e2]
    simp only [cThen, e3, e1, if_false]
    exact h1
   ·simp only [cThen, e1, e2, if_false] at h1 h2
    have e3 := h.trans _ _ _ h1 h2
    have e4 : c a.1 e.1 ≠ 0 := by omega
    simp only [cThen, e4, if_false]
    exact e3
theorem IsCmp.pull {α β : Type} {c : β → β → Int} (h : IsCmp c) (f : α → β) (hf : ∀ a b, f a = f b → a = b) : IsCmp (fun a b => c (f a) (f b)) where
 eq _ _ e := hf _ _ (h.eq _ _ e)
 refl _ := h.refl _
 anti _ _ := h.anti _ _
 trans _ _ _ := h.trans _ _ _
def cmpZ (a b : Int) : Int := if a < b then -1 else if b < a then 1 else 0
theorem cmpZ_is : IsCmp cmpZ where
 eq a b e := by unfold cmpZ at e; split at e <;> (try split at e) <;> omega
 refl _ := by unfold cmpZ; simp
 anti a b := by unfold cmpZ; split <;> split <;> (try split) <;> omega
 trans a b d h1 h2 := by unfold cmpZ at *; split at h1 <;> (try split at h1) <;> split at h2 <;> (try split at h2) <;> (try split) <;> omega
def cmpL {α : Type} (c : α → α → Int) : List α → List α → Int
 | [], [] => 0
 | [], _ :: _ => -1
 | _ :: _, [] => 1
 | x :: xs, y :: ys => cThen (c x y) (cmpL c xs ys)
theorem cmpL_is {α : Type} {c : α → α → Int} (h : IsCmp c) : IsCmp (cmpL c) where
 eq := by
  intro a
  induction a with
  | nil => intro b e; cases b <;> simp [cmpL] at e ⊢
  | cons x xs ih =>
   intro b e
   cases b with
   | nil => simp [cmpL] at e
   | cons y ys =>
    simp only [cmpL, cThen] at e
    split at e
    ·rename_i h1
     rw [h.eq _ _ h1, ih _ e]
    ·contradiction
 refl := by
  intro a
  induction a with
  | nil => rfl
  | cons x xs ih => simp [cmpL, cThen, h.refl, ih]
 anti := by
  intro a
  induction a with
  | nil => intro b; cases b <;> simp [cmpL]
  | cons x xs ih =>
   intro b
   cases b with
   | nil => simp [cmpL]
   | cons y ys =>
    have := h.anti x y
    have := ih ys
    simp only [cmpL, cThen]
    split <;> split <;> omega
 trans := by
  intro a
  induction a with
  | nil =>
   intro b d h1 h2
   cases d with
   | nil => cases b <;> simp [cmpL] at h1 h2
   | cons z zs => simp [cmpL]
  | cons x xs ih =>
   intro b d h1 h2
   cases b with
   | nil => simp [cmpL] at h1
   | cons y ys =>
    cases d with
    | nil => simp [cmpL] at h2
    | cons z zs =>
     simp only [cmpL] at *
     by_cases e1 : c x y = 0
     ·by_cases e2 : c y z = 0
      ·have e3 : c x z = 0 := by rw [h.eq _ _ e1, h.eq _ _ e2]; exact h.refl _
       simp only [cThen, e1, e2, e3, if_true] at *
       exact ih _ _ h1 h2
      ·simp only [cThen, e1, e2, if_true, if_false] at h1 h2
       have e3 : c x z = c y z := by rw [h.eq _ _ e1]
       simp only [cThen, e3, e2, if_false]
       exact h2
     ·by_cases e2 : c y z = 0
      ·simp only [cThen, e1, e2, if_true, if_false] at h1 h2
       have e3 : c x z = c x y := by rw [h.eq _ _ e2]
       simp only [cThen, e3, e1, if_false]
       exact h1
      ·simp only [cThen, e1, e2, if_false] at h1 h2
       have e3 := h.trans _ _ _ h1 h2
       have e4 : c x z ≠ 0 := by omega
       simp only [cThen, e4, if_false]
       exact e3
def cmpU (a b : UInt8) : Int := cmpZ a.toNat b.toNat
theorem cmpU_is : IsCmp cmpU := cmpZ_is.pull (fun u : UInt8 => (u.toNat : Int)) (fun a b h => UInt8.toNat_inj.1 (by have h' : (a.toNat : Int) = b.toNat := h; omega))
def cmpB (a b : ByteArray) : Int := cmpL cmpU a.toList b.toList
theorem toList_inj {a b : ByteArray} (h : a.toList = b.toList) : a = b := by
 rw [ByteArray.toList_eq, ByteArray.toList_eq] at h
 cases a; cases b
 simp only [ByteArray.mk.injEq]
 exact Array.toList_inj.1 h
theorem cmpB_is : IsCmp cmpB := (cmpL_is cmpU_is).pull ByteArray.toList (fun _ _ h => toList_inj h)
theorem bytesLess_cmp : ∀ (x y : List UInt8), Op.bytesLess x y = decide (cmpL cmpU x y < 0)
 | [], [] => by simp [Op.bytesLess, cmpL]
 | _ :: _, [] => by simp [Op.bytesLess, cmpL]
 | [], _ :: _ => by simp [Op.bytesLess, cmpL]
 | a :: x, b :: y => by
  rw [Op.bytesLess, bytesLess_cmp x y]
  simp only [cmpL, cThen, cmpU, cmpZ]
  by_cases h1 : a < b
  ·have h2 : (a.toNat : Int) < b.toNat := by have := UInt8.lt_iff_toNat_lt.1 h1; omega
   simp [h1, h2]
  ·by_cases h3 : a = b
   ·subst h3
    simp
   ·have h4 : ¬ (a.toNat : Int) < b.toNat := by
     intro h
     exact h1 (UInt8.lt_iff_toNat_lt.2 (by omega))
    have h5 : (b.toNat : Int) < a.toNat := by
     have : a.toNat ≠ b.toNat := fun h => h3 (UInt8.toNat_inj.1 h)
     omega
    simp [h1, h3, h4, h5]
theorem cmpB_less (a b : ByteArray) : cmpB a b = if Op.bytesLess a.toList b.toList = true then -1 else if a = b then 0 else 1 := by
 have hv : ∀ (x y : List UInt8), cmpL cmpU x y = -1 ∨ cmpL cmpU x y = 0 ∨ cmpL cmpU x y = 1 := by
  intro x
  induction x with
  | nil => intro y; cases y <;> simp [cmpL]
  | cons p x ih =>
   intro y
   cases y with
   | nil => simp [cmpL]
   | cons q y =>
    have := ih y
    simp only [cmpL, cThen, cmpU, cmpZ]
    split <;> (try split) <;> (try split) <;> omega
 rw [bytesLess_cmp]
 have h := hv a.toList b.toList
 unfold cmpB
 by_cases e : a = b
 ·subst e
  rw [(cmpL_is cmpU_is).refl]
  simp
 ·have hn : cmpL cmpU a.toList b.toList ≠ 0 := fun h0 => e (toList_inj ((cmpL_is cmpU_is).eq _ _ h0))
  simp only [e, if_false]
  by_cases h1 : cmpL cmpU a.toList b.toList < 0
  ·simp [h1]; omega
  ·simp [h1]; omega
def isD (b : UInt8) : Bool := 48 ≤ b.toNat && b.toNat ≤ 57
def runD : Nat → List UInt8 → List UInt8
 | 0, _ => []
 | _ + 1, [] => []
 | n + 1, b :: l => if isD b then b :: runD n l else []
def numD (ds : List UInt8) : Nat := ds.foldl (fun n b => n * 10 + (b.toNat - 48)) 0
structure Part where
 ord : Nat
 at_ : Nat
 e : Nat
def firstP (count at_ : Nat) (l : List UInt8) : Part × Nat :=
 let ds := runD 7 l
 if count = 8 then (⟨0, at_, 9⟩, at_) else if l = [] then (⟨0, at_, 4⟩, at_) else if ds = [] then (⟨0, at_, 6⟩, at_) else if l[0]? = some 48 then (⟨0, at_, 3⟩, at_)
 else if 6 < ds.length then (⟨0, at_, 2⟩, at_) else (⟨numD ds, at_, 0⟩, at_ + ds.length)
def partsR : Nat → Nat → List UInt8 → List Part
 | 0, at_, _ => [⟨0, at_, 9⟩]
 | n + 1, at_, l =>
  let p := (firstP (7 - n) at_ l).1
  if p.e ≠ 0 then [p] else
   let k := (runD 7 l).length
   if l.length ≤ k then [p] else if l[k]? ≠ some 46 then [p, ⟨0, at_ + k, 6⟩] else p :: partsR n (at_ + k + 1) (l.drop (k + 1))
def partsL (s : ByteArray) : List Part := if s.size = 0 then [] else partsR 8 0 s.toList
def validO (s : ByteArray) : Bool := (partsL s).all (fun p => p.e == 0)
def ordsO (s : ByteArray) : List Int := (partsL s).map (fun p => (p.ord : Int))
theorem runD_length : ∀ (n : Nat) (l : List UInt8), (runD n l).length ≤ n ∧ (runD n l).length ≤ l.length
 | 0, l => by simp [runD]
 | n + 1, [] => by simp [runD]
 | n + 1, b :: l => by
  have := runD_length n l
  rw [runD]
  split <;> simp <;> omega
theorem runD_take : ∀ (n : Nat) (l : List UInt8), runD n l = l.take (runD n l).length
 | 0, l => by simp [runD]
 | n + 1, [] => by simp [runD]
 | n + 1, b :: l => by
  rw [runD]
  split
  ·rw [List.length_cons, List.take_succ_cons, ← runD_take n l]
  ·simp
theorem runD_all : ∀ (n : Nat) (l : List UInt8), ∀ b ∈ runD n l, isD b = true
 | 0, l => by simp [runD]
 | n + 1, [] => by simp [runD]
 | n + 1, b :: l => by
  intro x hx
  rw [runD] at hx
  split at hx
  ·rename_i h
   rcases List.mem_cons.1 hx with rfl | h2
   ·exact h
   ·exact runD_all n l x h2
  ·simp at hx
theorem runD_step : ∀ (n : Nat) (l : List UInt8) (j : Nat), j ≤ (runD n l).length → (j < (runD n l).length ↔ j < n ∧ ∃ b, l[j]? = some b ∧ isD b = true)
 | 0, l, j, h => by simp [runD]
 | n + 1, [], j, h => by simp [runD]
 | n + 1, b :: l, 0, h => by
  rw [runD]
  by_cases hb : isD b = true
  ·simp [hb]
  ·simp [hb]
 | n + 1, b :: l, j + 1, h => by
  rw [runD] at h ⊢
  by_cases hb : isD b = true
  ·simp only [hb, if_true, List.length_cons] at h ⊢
   have := runD_step n l j (by omega)
   simp only [List.getElem?_cons_succ]
   rw [show (j + 1 < (runD n l).length + 1) ↔ (j < (runD n l).length) by omega, show (j + 1 < n + 1) ↔ (j < n) by omega]
   exact this
  ·simp [hb] at h
theorem numD_snoc (ds : List UInt8) (b : UInt8) : numD (ds ++ [b]) = numD ds * 10 + (b.toNat - 48) := by simp [numD]
theorem numD_lt : ∀ (n : Nat) (ds : List UInt8), ds.length = n → (∀ b ∈ ds, isD b = true) → numD ds < 10 ^ n := by
 intro n
 induction n with
 | zero =>
  intro ds h _
  rw [List.eq_nil_of_length_eq_zero h]
  decide
 | succ n ih =>
  intro ds h hd
  obtain ⟨init, b, rfl⟩ : ∃ init b, ds = init ++ [b] := by
   rcases List.eq_nil_or_concat ds with rfl | ⟨i, b, rfl⟩
   ·simp at h
   ·exact ⟨i, b, by simp⟩
  rw [numD_snoc]
  have h1 := ih init (by simpa using h) (fun x hx => hd x (by simp [hx]))
  have h2 := hd b (by simp)
  simp only [isD, Bool.and_eq_true, decide_eq_true_eq] at h2
  rw [Nat.pow_succ]
  omega
end Go.Proofs.YtpnchdgplpdefaaGreatDoor
