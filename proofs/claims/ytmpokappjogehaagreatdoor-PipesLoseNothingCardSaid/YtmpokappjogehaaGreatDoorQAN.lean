/- Steps of the proof of LawPipesLoseNothing: contracts of the functions that the law reaches, for every world that holds what each of them asks. -/
import Derived.Test.YtmpokappjogehaaGreatDoorQAM
import Derived.Test.YtmpokappjogehaaGreatDoorQAC
set_option linter.unusedVariables false
set_option linter.unusedSimpArgs false
namespace Go.Proofs.YtmpokappjogehaaGreatDoor
open Go.RowKit

theorem snoc_cases {α : Type} (l : List α) (h : l ≠ []) : ∃ i x, l = i ++ [x] := by
  rcases List.eq_nil_or_concat l with rfl | ⟨i, b, rfl⟩
  · exact absurd rfl h
  · exact ⟨i, b, by simp⟩
def GoodD (ds : List UInt8) : Prop := (∀ b ∈ ds, isD b = true) ∧ ds ≠ [] ∧ ds[0]? ≠ some 48
theorem isD_iff {b : UInt8} (h : isD b = true) : 48 ≤ b.toNat ∧ b.toNat ≤ 57 := by simpa [isD] using h
theorem GoodD.init {i : List UInt8} {x : UInt8} (h : GoodD (i ++ [x])) (hi : i ≠ []) : GoodD i := by
  refine ⟨fun b hb => h.1 b (by simp [hb]), hi, fun e => h.2.2 ?_⟩
  rw [List.getElem?_append_left (List.length_pos_iff.2 hi)]
  exact e
theorem numD_pos : ∀ (n : Nat) (ds : List UInt8), ds.length = n → GoodD ds → 1 ≤ numD ds := by
  intro n
  induction n with
  | zero => intro ds h hg; exact absurd (List.length_eq_zero_iff.1 h) hg.2.1
  | succ n ih =>
    intro ds h hg
    obtain ⟨i, x, rfl⟩ := snoc_cases ds hg.2.1
    rw [numD_snoc]
    by_cases hi : i = []
    · subst hi
      have h1 := isD_iff (hg.1 x (by simp))
      have h2 : x ≠ 48 := fun e => hg.2.2 (by rw [e]; rfl)
      have h3 : x.toNat ≠ 48 := fun e => h2 (UInt8.toNat_inj.1 e)
      omega
    · have := ih i (by simpa using h) (hg.init hi)
      omega
theorem numD_inj : ∀ (n : Nat) (ds es : List UInt8), ds.length = n → GoodD ds → GoodD es → numD ds = numD es → ds = es := by
  intro n
  induction n with
  | zero => intro ds es h hg; exact absurd (List.length_eq_zero_iff.1 h) hg.2.1
  | succ n ih =>
    intro ds es h hd he e
    obtain ⟨i, x, rfl⟩ := snoc_cases ds hd.2.1
    obtain ⟨j, y, rfl⟩ := snoc_cases es he.2.1
    rw [numD_snoc, numD_snoc] at e
    have hx := isD_iff (hd.1 x (by simp))
    have hy := isD_iff (he.1 y (by simp))
    have hxy : x = y := UInt8.toNat_inj.1 (by omega)
    have hij : numD i = numD j := by omega
    subst hxy
    by_cases hi : i = []
    · by_cases hj : j = []
      · rw [hi, hj]
      · have := numD_pos _ j rfl (he.init hj)
        rw [hi] at hij
        simp [numD] at hij
        simp [numD] at this
        omega
    · by_cases hj : j = []
      · have := numD_pos _ i rfl (hd.init hi)
        rw [hj] at hij
        simp [numD] at hij
        simp [numD] at this
        omega
      · rw [ih i j (by simpa using h) (hd.init hi) (he.init hj) hij]
theorem firstP_ok {c a : Nat} {l : List UInt8} (h : (firstP c a l).1.e = 0) : GoodD (runD 7 l) ∧ (firstP c a l).1.ord = numD (runD 7 l) := by
  simp only [firstP] at h ⊢
  split at h
  · simp at h
  · rename_i h1
    rw [if_neg h1]
    split at h
    · simp at h
    · rename_i h2
      rw [if_neg h2]
      split at h
      · simp at h
      · rename_i h3
        rw [if_neg h3]
        split at h
        · simp at h
        · rename_i h4
          rw [if_neg h4]
          split at h
          · simp at h
          · rename_i h5
            rw [if_neg h5]
            refine ⟨⟨runD_all 7 l, h3, fun e => h4 ?_⟩, rfl⟩
            have hk : 0 < (runD 7 l).length := List.length_pos_iff.2 h3
            rw [runD_take, List.getElem?_take_of_lt hk] at e
            exact e
theorem partsR_ne (n a : Nat) (l : List UInt8) : partsR n a l ≠ [] := by
  cases n with
  | zero => simp [partsR]
  | succ n =>
    rw [partsR]
    simp only
    split
    · simp
    · split
      · simp
      · split <;> simp
theorem partsR_ok {n a : Nat} {l : List UInt8} (h : ∀ p ∈ partsR (n + 1) a l, p.e = 0) :
    GoodD (runD 7 l) ∧ ((l = runD 7 l ∧ (partsR (n + 1) a l).map (·.ord) = [numD (runD 7 l)]) ∨
      ∃ r, l = runD 7 l ++ 46 :: r ∧ (partsR (n + 1) a l).map (·.ord) = numD (runD 7 l) :: (partsR n (a + (runD 7 l).length + 1) r).map (·.ord) ∧ ∀ p ∈ partsR n (a + (runD 7 l).length + 1) r, p.e = 0) := by
  rw [partsR] at h ⊢
  simp only at h ⊢
  by_cases he : (firstP (7 - n) a l).1.e = 0
  · rw [if_neg (by simp [he])] at h ⊢
    obtain ⟨hg, ho⟩ := firstP_ok he
    refine ⟨hg, ?_⟩
    have hk := runD_length 7 l
    have ht := runD_take 7 l
    by_cases h1 : l.length ≤ (runD 7 l).length
    · rw [if_pos h1]
      left
      refine ⟨?_, by simp [ho]⟩
      rw [List.take_of_length_le h1] at ht
      exact ht.symm
    · rw [if_neg h1] at h ⊢
      by_cases h2 : l[(runD 7 l).length]? = some 46
      · rw [if_neg (by simp [h2])] at h ⊢
        right
        refine ⟨l.drop ((runD 7 l).length + 1), ?_, by simp [ho], fun p hp => h p (by simp [hp])⟩
        obtain ⟨hlt, hv⟩ := List.getElem?_eq_some_iff.1 h2
        conv => lhs; rw [← List.take_append_drop (runD 7 l).length l, ← ht, List.drop_eq_getElem_cons hlt, hv]
      · rw [if_pos h2] at h
        have := h ⟨0, a + (runD 7 l).length, 6⟩ (by simp)
        simp at this
  · rw [if_pos he] at h
    exact absurd (h _ (by simp)) he
theorem partsR_inj : ∀ (n a b : Nat) (l m : List UInt8), (∀ p ∈ partsR n a l, p.e = 0) → (∀ p ∈ partsR n b m, p.e = 0) → (partsR n a l).map (·.ord) = (partsR n b m).map (·.ord) → l = m
  | 0, a, b, l, m, h, _, _ => by
    have := h ⟨0, a, 9⟩ (by simp [partsR])
    simp at this
  | n + 1, a, b, l, m, h, k, e => by
    obtain ⟨g1, c1⟩ := partsR_ok h
    obtain ⟨g2, c2⟩ := partsR_ok k
    rcases c1 with ⟨e1, o1⟩ | ⟨r, e1, o1, q1⟩
    · rcases c2 with ⟨e2, o2⟩ | ⟨s, e2, o2, q2⟩
      · rw [o1, o2] at e
        rw [e1, e2]
        exact numD_inj _ _ _ rfl g1 g2 (by simpa using e)
      · rw [o1, o2] at e
        simp only [List.cons.injEq] at e
        exact absurd (List.map_eq_nil_iff.1 e.2.symm) (partsR_ne _ _ _)
    · rcases c2 with ⟨e2, o2⟩ | ⟨s, e2, o2, q2⟩
      · rw [o1, o2] at e
        simp only [List.cons.injEq] at e
        exact absurd (List.map_eq_nil_iff.1 e.2) (partsR_ne _ _ _)
      · rw [o1, o2] at e
        simp only [List.cons.injEq] at e
        rw [e1, e2, numD_inj _ _ _ rfl g1 g2 e.1, partsR_inj n _ _ r s q1 q2 e.2]
theorem ordsO_inj {a b : ByteArray} (ha : validO a = true) (hb : validO b = true) (h : ordsO a = ordsO b) : a = b := by
  apply toList_inj
  unfold validO at ha hb
  rw [List.all_eq_true] at ha hb
  simp only [beq_iff_eq] at ha hb
  unfold ordsO at h
  have hm : (partsL a).map (·.ord) = (partsL b).map (·.ord) := by
    have h' := congrArg (List.map Int.toNat) h
    simpa [List.map_map, Function.comp_def] using h'
  unfold partsL at ha hb hm
  by_cases za : a.size = 0
  · by_cases zb : b.size = 0
    · rw [show a.toList = [] from List.length_eq_zero_iff.1 (by rw [toList_size]; exact za), show b.toList = [] from List.length_eq_zero_iff.1 (by rw [toList_size]; exact zb)]
    · rw [if_pos za, if_neg zb] at hm
      exact absurd (List.map_eq_nil_iff.1 hm.symm) (partsR_ne _ _ _)
  · by_cases zb : b.size = 0
    · rw [if_neg za, if_pos zb] at hm
      exact absurd (List.map_eq_nil_iff.1 hm) (partsR_ne _ _ _)
    · rw [if_neg za] at ha hm
      rw [if_neg zb] at hb hm
      exact partsR_inj 8 0 0 _ _ ha hb hm
/-- Owners by their keys: first those that are names. -/
def keyO (a : ByteArray) : (Int × List Int) × ByteArray := if validO a = true then ((0, ordsO a), ByteArray.empty) else ((1, []), a)
theorem keyO_inj (a b : ByteArray) (h : keyO a = keyO b) : a = b := by
  unfold keyO at h
  split at h
  · rename_i ha
    split at h
    · rename_i hb
      simp only [Prod.mk.injEq, true_and, and_true] at h
      exact ordsO_inj ha hb h
    · simp at h
  · split at h
    · simp at h
    · simpa using h
def cmpK (x y : (Int × List Int) × ByteArray) : Int := cThen (cThen (cmpZ x.1.1 y.1.1) (cmpL cmpZ x.1.2 y.1.2)) (cmpB x.2 y.2)
theorem cmpK_is : IsCmp cmpK := ((cmpZ_is.lex (cmpL_is cmpZ_is)).lex cmpB_is)
theorem cmpO_key (a b : ByteArray) : cmpO a b = cmpK (keyO a) (keyO b) := by
  unfold cmpO
  by_cases e : a = b
  · subst e
    rw [if_pos rfl, cmpK_is.refl]
  · rw [if_neg e]
    unfold keyO cmpK
    by_cases ha : validO a = true
    · rw [if_pos ha, if_pos ha]
      by_cases hb : validO b = true
      · rw [if_pos hb, if_pos hb]
        simp only [cmpZ_is.refl, cThen, if_true, cmpB_is.refl]
        split
        · assumption
        · rfl
      · rw [if_neg hb, if_neg hb]
        rfl
    · rw [if_neg ha, if_neg ha]
      by_cases hb : validO b = true
      · rw [if_pos hb, if_pos hb]
        rfl
      · rw [if_neg hb, if_neg hb]
        simp only [cmpZ_is.refl, cThen, if_true, (cmpL_is cmpZ_is).refl]
theorem cmpO_is : IsCmp cmpO := by
  have h := cmpK_is.pull keyO keyO_inj
  have e : cmpO = fun a b => cmpK (keyO a) (keyO b) := by funext a b; exact cmpO_key a b
  rw [e]
  exact h
def nameT (n : NameV) : Int × ByteArray × Int × Int × ByteArray := (n.kind, n.owner, n.number, n.index, n.text)
theorem cmpN_is : IsCmp cmpN := by
  have h := (cmpZ_is.lex (cmpO_is.lex (cmpZ_is.lex (cmpZ_is.lex cmpB_is)))).pull nameT (fun a b e => by
    cases a; cases b
    simpa [nameT] using e)
  exact h
end Go.Proofs.YtmpokappjogehaaGreatDoor

namespace Go.Proofs.YtmpokappjogehaaGreatDoor
open Go.RowKit

theorem StableL.is {T : Nat → Prop} {w : World} : ∀ V : List Value, StableL T w (V.map Is)
  | [] => trivial
  | x :: r => ⟨Is.stable x, StableL.is r⟩
theorem factOf_is : ∀ (V : List Value) (j : Nat) (w : World), factOf (V.map Is) j (V.getD j undef) w
  | [], _, _ => trivial
  | _ :: _, 0, _ => rfl
  | _ :: r, j + 1, w => factOf_is r j w
theorem factOf_val : ∀ (V : List Value) (j : Nat) (v : Value) (w : World), j < V.length → factOf (V.map Is) j v w → v = V.getD j undef
  | _ :: _, 0, _, _, _, h => h
  | _ :: r, j + 1, v, w, hj, h => factOf_val r j v w (by simpa using hj) h
def OneIs (a : Act) (d : Option Tmp) (w : World) (v : Value) (a' : Act) (w' : World) : Prop := a' = a.put d v ∧ Fr Nothing w w'
def headIs (P : Program) (ops : Array Oper) (Q : Exit → Act → World → Prop) (w : World) (F : (Nat → Value) → Act) (V : List Value) : Nat → List Oper → Prop
  | _, [] => True
  | i, o :: r => (∀ u w', Fr Nothing w w' → (∀ j, (_ : Region.waitsFor .any ops i j = true := by kernel_rfl) → factOf (V.map Is) j (u j) w') → wpW P ops Q o (F u) w' (OneIs (F u) o.dst w' (V.getD i undef))) ∧ headIs P ops Q w F V (i + 1) r
theorem headIs.st {P : Program} {ops : Array Oper} {Q : Exit → Act → World → Prop} {w : World} {F : (Nat → Value) → Act} {V : List Value} {n : Nat} : ∀ {l : List Oper} {i : Nat}, headIs P ops Q w F V i l → headSt P ops Q Nothing w F (factOf (V.map Is)) [] (fun _ => True) (fun _ _ => false) n i l
  | [], _, _ => trivial
  | _ :: _, i, h => ⟨fun u w' _ hf hR _ _ _ => wpW_mono (fun _ w'' ⟨e, f⟩ => ⟨_, e, f, factOf_is V i w'', trivial⟩) (h.1 u w' hf hR), headIs.st h.2⟩
theorem skS {P : Program} {ops : Array Oper} {Q : Exit → Act → World → Prop} {o : Oper} {a : Act} {w : World} (h : Region.wanted o (yielded ops a.tmps) = false := by kernel_rfl) : wpW P ops Q o a w (OneIs a o.dst w undef) := .inr ⟨h, rfl, Fr.refl _ _⟩
theorem goS {P : Program} {ops : Array Oper} {Q : Exit → Act → World → Prop} {o : Oper} {a : Act} {w : World} {K : Act → World → Prop} (h : o.wp P a w K Q) (hw : Region.wanted o (yielded ops a.tmps) = true := by kernel_rfl) : wpW P ops Q o a w K := .inl ⟨hw, h⟩
theorem z1 {α : Type} {n : Nat} {a : α} {l : List α} : (a :: l).take (n + 1) = a :: l.take n := rfl
theorem z2 {α : Type} {l : List α} : l.take 0 = [] := rfl
theorem z3 {α β : Type} {f : α → β} {a : α} {l : List α} : (a :: l).map f = f a :: l.map f := rfl
theorem z4 {α β : Type} {f : α → β} : ([] : List α).map f = [] := rfl
theorem z5 {α : Type} {i : Nat} {a : α} {l : List α} : l.toArray.setIfInBounds i a = (l.set i a).toArray := List.setIfInBounds_toArray ..
theorem z6 {α : Type} {a b : α} {l : List α} : (a :: l).set 0 b = b :: l := rfl
theorem z7 {α : Type} {n : Nat} {a b : α} {l : List α} : (a :: l).set (n + 1) b = a :: l.set n b := rfl
theorem z8 {α : Type} {n : Nat} {a : α} {l : List α} : (a :: l).drop (n + 1) = l.drop n := rfl
theorem z9 {α : Type} {l : List α} : l.drop 0 = l := rfl
theorem z10 {α : Type} {a d : α} {l : List α} : (a :: l).getD 0 d = a := rfl
theorem z11 {α : Type} {n : Nat} {a d : α} {l : List α} : (a :: l).getD (n + 1) d = l.getD n d := rfl
theorem puts_is (ds : List (Option Tmp)) (V : List Value) (u : Nat → Value) (a : Act) (hl : ds.length ≤ V.length) (h : ∀ j, j < V.length → u j = V.getD j undef) : puts ds 0 u a = puts ds 0 (fun j => V.getD j undef) a := by
  have : ∀ (ds : List (Option Tmp)) (k : Nat) (a : Act), k + ds.length ≤ V.length → puts ds k u a = puts ds k (fun j => V.getD j undef) a := by
    intro ds
    induction ds with
    | nil => intro k a _; rfl
    | cons d r ih =>
      intro k a hk
      simp only [List.length_cons] at hk
      rw [puts, puts, h k (by omega)]
      exact ih (k + 1) _ (by omega)
  exact this ds 0 a (by omega)
theorem wp_is {P : Program} {id : Nat} {Q : Exit → Act → World → Prop} {a : Act} {w : World} {l : List Oper} (n : Nat) (V : List Value) 
    (hh : headIs P l.toArray Q w (fun u => puts ((l.take n).map (·.dst)) 0 u a) V 0 (l.take n))
    (ht : ∀ w', Fr Nothing w w' → wpList P l.toArray Q (l.drop n) (puts ((l.take n).map (·.dst)) 0 (fun j => V.getD j undef) a) w') (hn : V.length = n := by rfl) (hm : P.follows .mixedOrders = true := by kernel_rfl) (hg : growS l.toArray n = true := by kernel_rfl) (hB : beforeB l.toArray n (fun _ _ => false) = true := by kernel_rfl) : (Code.region id l.toArray true).wp P Q a w := by
  refine wp_region_st n Nothing (V.map Is) [] (fun _ => True) (fun _ _ => false) hm hg hB (by simp [chainP]) (StableL.is V) trivial (fun _ _ _ _ h => h) trivial hh.st ?_
  intro u w' hf hR _
  rw [puts_is _ V u a (by rw [hn, List.length_map, List.length_take]; omega) (fun j hj => factOf_val V j (u j) w' hj (hR j (by omega)))]
  exact ht w' hf
theorem wq_is {P : Program} {id : Nat} {Q : Exit → Act → World → Prop} {a : Act} {w : World} {l : List Oper} (n : Nat) (V : List Value) 
    (hh : headIs P l.toArray Q w (fun u => puts ((l.take n).map (·.dst)) 0 u a) V 0 (l.take n))
    (ht : ∀ w', Fr Nothing w w' → wpList P l.toArray Q (l.drop n) (puts ((l.take n).map (·.dst)) 0 (fun j => V.getD j undef) a) w') (hn : V.length = n := by rfl) (hg : growQ l.toArray n = true := by kernel_rfl) (hB : beforeB l.toArray n (fun _ _ => false) = true := by kernel_rfl) : (Code.region id l.toArray false).wp P Q a w := by
  refine wp_region_sq n Nothing (V.map Is) [] (fun _ => True) (fun _ _ => false) hg hB (by simp [chainP]) (StableL.is V) trivial (fun _ _ _ _ h => h) trivial hh.st ?_
  intro u w' hf hR _
  rw [puts_is _ V u a (by rw [hn, List.length_map, List.length_take]; omega) (fun j hj => factOf_val V j (u j) w' hj (hR j (by omega)))]
  exact ht w' hf
/-- A fact of a value, with what keeps it. -/
structure Fact where
  p : Value → World → Prop
  st : ∀ v w w', Fr Nothing w w' → p v w → p v w'
def iS (x : Value) : Fact := ⟨Is x, fun _ _ _ _ h => h⟩
def anyF : Fact := ⟨fun _ _ => True, fun _ _ _ _ _ => trivial⟩
theorem StableL.fact {w : World} : ∀ V : List Fact, StableL Nothing w (V.map Fact.p)
  | [] => trivial
  | x :: r => ⟨fun v w' w'' _ f h => x.st v w' w'' f h, StableL.fact r⟩
theorem factOf_fact : ∀ (V : List Fact) (j : Nat), factOf (V.map Fact.p) j = (V.getD j anyF).p
  | [], _ => rfl
  | _ :: _, 0 => rfl
  | _ :: r, j + 1 => factOf_fact r j
def OneFa (a : Act) (d : Option Tmp) (w : World) (p : Value → World → Prop) (a' : Act) (w' : World) : Prop := ∃ v, a' = a.put d v ∧ Fr Nothing w w' ∧ p v w'
def headFa (P : Program) (ops : Array Oper) (Q : Exit → Act → World → Prop) (w : World) (F : (Nat → Value) → Act) (V : List Fact) : Nat → List Oper → Prop
  | _, [] => True
  | i, o :: r => (∀ u w', Fr Nothing w w' → (∀ j, (_ : Region.waitsFor .any ops i j = true := by kernel_rfl) → (V.getD j anyF).p (u j) w') → wpW P ops Q o (F u) w' (OneFa (F u) o.dst w' (V.getD i anyF).p)) ∧ headFa P ops Q w F V (i + 1) r
theorem headFa.st {P : Program} {ops : Array Oper} {Q : Exit → Act → World → Prop} {w : World} {F : (Nat → Value) → Act} {V : List Fact} {n : Nat} : ∀ {l : List Oper} {i : Nat}, headFa P ops Q w F V i l → headSt P ops Q Nothing w F (factOf (V.map Fact.p)) [] (fun _ => True) (fun _ _ => false) n i l
  | [], _, _ => trivial
  | _ :: _, i, h => ⟨fun u w' _ hf hR _ _ _ => wpW_mono (fun _ w'' ⟨v, e, f, q⟩ => ⟨v, e, f, by rw [factOf_fact]; exact q, trivial⟩) (h.1 u w' hf (fun j hj => by have := hR j hj; rw [factOf_fact] at this; exact this)), headFa.st h.2⟩
theorem skF {P : Program} {ops : Array Oper} {Q : Exit → Act → World → Prop} {o : Oper} {a : Act} {w : World} (h : Region.wanted o (yielded ops a.tmps) = false := by kernel_rfl) : wpW P ops Q o a w (OneFa a o.dst w (Is undef)) := .inr ⟨h, _, rfl, Fr.refl _ _, rfl⟩
theorem wp_fa {P : Program} {id : Nat} {Q : Exit → Act → World → Prop} {a : Act} {w : World} {l : List Oper} (n : Nat) (V : List Fact)
    (hh : headFa P l.toArray Q w (fun u => puts ((l.take n).map (·.dst)) 0 u a) V 0 (l.take n))
    (ht : ∀ u w', Fr Nothing w w' → (∀ j, j < n → (V.getD j anyF).p (u j) w') → wpList P l.toArray Q (l.drop n) (puts ((l.take n).map (·.dst)) 0 u a) w')
    (hm : P.follows .mixedOrders = true := by kernel_rfl) (hg : growS l.toArray n = true := by kernel_rfl) (hB : beforeB l.toArray n (fun _ _ => false) = true := by kernel_rfl) : (Code.region id l.toArray true).wp P Q a w := by
  refine wp_region_st n Nothing (V.map Fact.p) [] (fun _ => True) (fun _ _ => false) hm hg hB (by simp [chainP]) (StableL.fact V) trivial (fun _ _ _ _ h => h) trivial hh.st ?_
  intro u w' hf hR _
  exact ht u w' hf (fun j hj => by have := hR j hj; rw [factOf_fact] at this; exact this)
theorem wq_fa {P : Program} {id : Nat} {Q : Exit → Act → World → Prop} {a : Act} {w : World} {l : List Oper} (n : Nat) (V : List Fact)
    (hh : headFa P l.toArray Q w (fun u => puts ((l.take n).map (·.dst)) 0 u a) V 0 (l.take n))
    (ht : ∀ u w', Fr Nothing w w' → (∀ j, j < n → (V.getD j anyF).p (u j) w') → wpList P l.toArray Q (l.drop n) (puts ((l.take n).map (·.dst)) 0 u a) w')
    (hg : growQ l.toArray n = true := by kernel_rfl) (hB : beforeB l.toArray n (fun _ _ => false) = true := by kernel_rfl) : (Code.region id l.toArray false).wp P Q a w := by
  refine wp_region_sq n Nothing (V.map Fact.p) [] (fun _ => True) (fun _ _ => false) hg hB (by simp [chainP]) (StableL.fact V) trivial (fun _ _ _ _ h => h) trivial hh.st ?_
  intro u w' hf hR _
  exact ht u w' hf (fun j hj => by have := hR j hj; rw [factOf_fact] at this; exact this)
end Go.Proofs.YtmpokappjogehaaGreatDoor
