/- Steps of the proof of LawPipesLoseNothing: contracts of the functions that the law reaches, for every world that holds what each of them asks. -/
import Derived.Test.YtmpokappjogehaaGreatDoorQAV
import Derived.Test.YtmpokappjogehaaGreatDoorQAC
set_option linter.unusedVariables false
set_option linter.unusedSimpArgs false
namespace Go.Proofs.YtmpokappjogehaaGreatDoor
namespace Ev
open Go Go.RowKit

/-! ### What waits for what -/
def maskE (ms : List Nat) : List Edge → Nat
  | [] => 0
  | e :: l => match Region.binds .any e with
    | true => 2 ^ e.on ||| (ms.getD e.on 0 ||| maskE ms l)
    | false => maskE ms l
def masksOf : List Oper → List Nat → List Nat
  | [], ms => ms
  | o :: l, ms => masksOf l (ms ++ [maskE ms o.after.toList])
def tmpsOf : List Operand → List Nat
  | [] => []
  | .tmp t :: l => t :: tmpsOf l
  | _ :: l => tmpsOf l
def guardTmp (all : List Oper) : Option (Nat × Bool) → List Nat
  | none => []
  | some (j, _) => match all[j]? with
    | some q => match q.dst with
      | some t => [t]
      | none => []
    | none => []
def readsOf (all : List Oper) (o : Oper) : List Nat := guardTmp all o.guard ++ tmpsOf o.op.operands.toList
def ordOk (all : List Oper) (ms : List Nat) (i : Nat) (o : Oper) (j : Nat) (q : Oper) : Bool := bif Nat.beq i j then true else match q.dst with
  | none => true
  | some t => bif (readsOf all o).contains t then (bif Nat.blt j i then (ms.getD i 0).testBit j else (ms.getD j 0).testBit i) else true
def zipAll {α : Type} (f : Nat → α → Bool) : Nat → List α → Bool
  | _, [] => true
  | k, a :: l => bif f k a then zipAll f (k + 1) l else false
def statOk (all : List Oper) (ms : List Nat) : Bool := growT all.toArray all.length && zipAll (fun i o => zipAll (fun j q => ordOk all ms i o j q) 0 all) 0 all

/-! ### The run -/
structure Pd (X : Type) where
  op : Nat
  id : Nat
  ob : LObj X
structure Cfg (X : Type) where
  fr : Tr EV
  n : Nat
  base : Mem X
  nx : Nat
  /-- made, and not yet in the memory -/
  pd : List (Pd X)
  /-- all that was made -/
  ap : List (Pd X)
  /-- the operations that turned memory, and the memories behind them -/
  mks : List Nat
  bs : List (Mem X)
inductive Kd where
  | skip | still | make | mark
def addP {X : Type} (f : Nat → Bool) (h : Tr (LObj X)) : List (Pd X) → Tr (LObj X)
  | [] => h
  | p :: l => match f p.op with
    | true => (addP f h l).put p.id p.ob
    | false => addP f h l
def keepTr (fr : Tr EV) : List Nat → Tr EV
  | [] => .nil
  | t :: l => match fr.get t with
    | some e => (keepTr fr l).put t e
    | none => keepTr fr l
def Cfg.put {X : Type} (c : Cfg X) (d : Option Tmp) (v : EV) : Option (Cfg X) := match d with
  | none => some c
  | some t => match Nat.blt t c.n with
    | true => some { c with fr := c.fr.put t v }
    | false => none
def stepR {X : Type} (P : Program) (bl : Nat → List EV → Option EV) (call : Caller X) (all : List Oper) (ms : List Nat) (o : Oper) (i : Nat) (c : Cfg X) : Option (Kd × EV × Cfg X) :=
  match wantEv all (keepTr c.fr (readsOf all o)) o with
  | none => none
  | some false => match c.put o.dst undefE with
    | some c' => some (.skip, undefE, c')
    | none => none
  | some true => match stillEv P o (keepTr c.fr (readsOf all o)) (⟨addP (fun q => (ms.getD i 0).testBit q) c.base.h c.pd, 0⟩ : Mem X) with
    | some v => match c.put o.dst v with
      | some c' => some (.still, v, c')
      | none => none
    | none => match makeEv P o (keepTr c.fr (readsOf all o)) c.nx with
      | some (v, ob) => match c.put o.dst v with
        | some c' => some (.make, v, { c' with nx := c.nx + 1, pd := ⟨i, c.nx, ob⟩ :: c.pd, ap := ⟨i, c.nx, ob⟩ :: c.ap })
        | none => none
      | none => match turnEv P bl call o (keepTr c.fr (readsOf all o)) ⟨addP (fun q => (ms.getD i 0).testBit q) c.base.h c.pd, c.nx⟩ with
        | some (v, m) => match c.put o.dst v, Nat.ble c.nx m.nx with
          | some c', true => some (.mark, v, { c' with base := m, nx := m.nx, pd := c.pd.filter (fun p => !(ms.getD i 0).testBit p.op), mks := c.mks ++ [i], bs := c.bs ++ [m] })
          | _, _ => none
        | none => none
structure Rc (X : Type) where
  c : Cfg X
  k : Kd
  v : EV
def runR {X : Type} (P : Program) (bl : Nat → List EV → Option EV) (call : Caller X) (all : List Oper) (ms : List Nat) : List Oper → Nat → Cfg X → Option (List (Rc X) × Cfg X)
  | [], _, c => some ([], c)
  | o :: l, i, c => match stepR P bl call all ms o i c with
    | some (k, v, c') => match runR P bl call all ms l (i + 1) c' with
      | some (r, cf) => some (⟨c, k, v⟩ :: r, cf)
      | none => none
    | none => none

/-! ### What is looked at besides -/
mutual
def EV.avoid (ids : List Nat) : EV → Bool
  | .ptr id _ | .slc id _ _ _ | .asl id _ _ _ | .map id => !ids.contains id
  | .fn _ a c => EV.avoids ids a && EV.avoids ids c
  | .agg cs | .tup cs => EV.avoids ids cs
  | _ => true
def EV.avoids (ids : List Nat) : List EV → Bool
  | [] => true
  | e :: l => EV.avoid ids e && EV.avoids ids l
end
def LObj.avoid {X : Type} (ids : List Nat) : LObj X → Bool
  | .cells _ cs => EV.avoids ids cs
  | .row _ _ cs => EV.avoids ids cs
  | .brow _ => true
  | .ext _ | .dead => false
mutual
def EV.same : EV → EV → Bool
  | .bool a, .bool b => match a, b with
    | true, true | false, false => true
    | _, _ => false
  | .int k n, .int k' n' => decide (k = k') && eqF n n'
  | .str a, .str b => Nat.beq a.len b.len && Nat.beq a.num b.num
  | .ptr a b, .ptr c d => Nat.beq a c && Nat.beq b d
  | .nilp, .nilp | .nils, .nils | .nilm, .nilm | .nilf, .nilf | .any, .any => true
  | .slc a b c d, .slc a' b' c' d' => Nat.beq a a' && Nat.beq b b' && Nat.beq c c' && Nat.beq d d'
  | .asl a b c d, .asl a' b' c' d' => Nat.beq a a' && Nat.beq b b' && Nat.beq c c' && Nat.beq d d'
  | .map a, .map b => Nat.beq a b
  | .fn f a c, .fn f' a' c' => Nat.beq f f' && EV.sames a a' && EV.sames c c'
  | .agg a, .agg b => EV.sames a b
  | .tup a, .tup b => EV.sames a b
  | .sint k i lo hi, .sint k' i' lo' hi' => decide (k = k') && Nat.beq i i' && eqF lo lo' && eqF hi hi'
  | .sstr i lo hi, .sstr i' lo' hi' => Nat.beq i i' && Nat.beq lo lo' && Nat.beq hi hi'
  | .slen i lo hi, .slen i' lo' hi' => Nat.beq i i' && Nat.beq lo lo' && Nat.beq hi hi'
  | _, _ => false
def EV.sames : List EV → List EV → Bool
  | [], [] => true
  | a :: l, b :: r => EV.same a b && EV.sames l r
  | _, _ => false
end
/-- The stage up to which an operation may be taken. -/
def hiOf (ms : List Nat) (i : Nat) : List Nat → Nat
  | [] => 0
  | u :: l => bif (ms.getD u 0).testBit i then 0 else hiOf ms i l + 1
/-- The stage from which on it may be taken. -/
def loOf (m : Nat) : List Nat → Nat → Nat → Nat
  | [], _, r => r
  | u :: l, k, r => loOf m l (k + 1) (bif m.testBit u then k + 1 else r)
def idsOf {X : Type} (f : Nat → Bool) : List (Pd X) → List Nat
  | [] => []
  | p :: l => bif f p.op then p.id :: idsOf f l else idsOf f l
def stages (lo hi : Nat) (f : Nat → Bool) : Nat → Bool
  | 0 => true
  | s + 1 => (bif Nat.ble lo s && Nat.ble s hi then f s else true) && stages lo hi f s
def avoidR (ids : List Nat) (fr : Tr EV) : List Nat → Bool
  | [] => true
  | t :: l => (match fr.get t with
    | some e => EV.avoid ids e
    | none => true) && avoidR ids fr l
def lookR {X : Type} (P : Program) (all : List Oper) (ms : List Nat) (cf : Cfg X) (o : Oper) (i : Nat) (r : Rc X) : Bool := match r.k with
  | .skip => true
  | .still => stages (loOf (ms.getD i 0) cf.mks 0 0) (hiOf ms i cf.mks) (fun s => match cf.bs[s]? with
    | some b => match stillEv P o (keepTr r.c.fr (readsOf all o)) (⟨addP (fun q => (ms.getD i 0).testBit q && Nat.ble s (hiOf ms q cf.mks)) b.h cf.ap, cf.nx⟩ : Mem X) with
      | some v => EV.same v r.v
      | none => false
    | none => false) (cf.mks.length + 1)
  | .make => match makeEv P o (keepTr r.c.fr (readsOf all o)) r.c.nx with
    | some (_, ob) => LObj.avoid (idsOf (fun q => Nat.ble (loOf (ms.getD i 0) cf.mks 0 0) (hiOf ms q cf.mks)) cf.ap) (ob : LObj X)
    | none => false
  | .mark => avoidR (idsOf (fun q => !(ms.getD i 0).testBit q && Nat.ble r.c.mks.length (hiOf ms q cf.mks)) cf.ap) r.c.fr (readsOf all o) && (match r.c.mks.getLast? with
    | some u => (ms.getD i 0).testBit u
    | none => true)
def lookAll {X : Type} (P : Program) (all : List Oper) (ms : List Nat) (cf : Cfg X) : List Oper → Nat → List (Rc X) → Bool
  | [], _, [] => true
  | o :: l, i, r :: rs => lookR P all ms cf o i r && lookAll P all ms cf l (i + 1) rs
  | _, _, _ => false
/-- A region that draws its order. -/
def drawEv {X : Type} (P : Program) (bl : Nat → List EV → Option EV) (call : Caller X) (all : List Oper) (s : St X) : Option (St X) := match masksOf all [] with
  | ms => match statOk all ms with
    | false => none
    | true => match runR P bl call all ms all 0 ⟨s.fr, s.n, s.m, s.m.nx, [], [], [], [s.m]⟩ with
      | none => none
      | some (rs, cf) => match lookAll P all ms cf all 0 rs with
        | false => none
        | true => some { s with fr := cf.fr, m := ⟨addP (fun _ => true) cf.base.h cf.pd, cf.nx⟩ }
end Ev
end Go.Proofs.YtmpokappjogehaaGreatDoor

namespace Go.Proofs.YtmpokappjogehaaGreatDoor
namespace Ev
open Go Go.RowKit

/-! ### Waiting -/
inductive Reach (ops : Array Oper) : Nat → Nat → Prop where
  | one {i j : Nat} (h : Region.waitsFor .any ops i j = true) : Reach ops i j
  | step {i k j : Nat} (h : Region.waitsFor .any ops i k = true) (r : Reach ops k j) : Reach ops i j
theorem Reach.done {ops : Array Oper} {d : Nat → Bool} (hc : ∀ j k, d j = true → Region.waitsFor .any ops j k = true → d k = true) {i j : Nat} (h : Reach ops i j) : d i = true → d j = true := by
  induction h with
  | one h => exact fun hi => hc _ _ hi h
  | step h _ ih => exact fun hi => ih (hc _ _ hi h)
theorem Reach.ready {ops : Array Oper} {d : Nat → Bool} (hc : ∀ j k, d j = true → Region.waitsFor .any ops j k = true → d k = true) {i j : Nat} (h : Reach ops i j) (hi : ∀ k, Region.waitsFor .any ops i k = true → d k = true) : d j = true := by
  cases h with
  | one h => exact hi _ h
  | step h r => exact r.done hc (hi _ h)
theorem Reach.lt {ops : Array Oper} (he : ∀ i o, i < ops.size → ops[i]? = some o → ∀ e ∈ o.after, Region.binds .any e = true → e.on < i) {i j : Nat} (h : Reach ops i j) : j < i := by
  have one : ∀ {i j}, Region.waitsFor .any ops i j = true → j < i := fun {i j} h => by
    obtain ⟨o, ho, e, hm, hb, rfl⟩ := Region.waitsFor_spec h
    exact he i o (Array.getElem?_eq_some_iff.1 ho).1 ho e hm hb
  induction h with
  | one h => exact one h
  | step h _ ih => exact Nat.lt_trans ih (one h)
theorem maskE_spec (ms : List Nat) (j : Nat) : ∀ (es : List Edge), (maskE ms es).testBit j = true → ∃ e ∈ es, Region.binds .any e = true ∧ (e.on = j ∨ (ms.getD e.on 0).testBit j = true)
  | [], h => by simp [maskE] at h
  | e :: l, h => by
    simp only [maskE] at h
    split at h
    · rename_i hb
      rw [Nat.testBit_or, Nat.testBit_or, Bool.or_eq_true, Bool.or_eq_true] at h
      rcases h with h | h | h
      · rw [Nat.testBit_two_pow] at h
        exact ⟨e, List.mem_cons_self .., hb, .inl (by simpa using h)⟩
      · exact ⟨e, List.mem_cons_self .., hb, .inr h⟩
      · obtain ⟨e', h1, h2⟩ := maskE_spec ms j l h
        exact ⟨e', List.mem_cons_of_mem _ h1, h2⟩
    · obtain ⟨e', h1, h2⟩ := maskE_spec ms j l h
      exact ⟨e', List.mem_cons_of_mem _ h1, h2⟩
theorem masks_reach {ops : Array Oper} : ∀ (l : List Oper) (ms : List Nat), (∀ k o, l[k]? = some o → ops[ms.length + k]? = some o) → (∀ i j, (ms.getD i 0).testBit j = true → Reach ops i j) → ∀ i j, ((masksOf l ms).getD i 0).testBit j = true → Reach ops i j
  | [], ms, _, h, i, j, hb => h i j hb
  | o :: l, ms, hl, h, i, j, hb => by
    rw [masksOf] at hb
    have ho : ops[ms.length]? = some o := by have := hl 0 o rfl; simpa using this
    refine masks_reach l (ms ++ [maskE ms o.after.toList]) (fun k o' hk => ?_) (fun i j hij => ?_) i j hb
    · rw [List.length_append, List.length_singleton, Nat.add_assoc, Nat.add_comm 1 k]
      exact hl (k + 1) o' hk
    · rcases Nat.lt_trichotomy i ms.length with hi | hi | hi
      · rw [List.getD_eq_getElem?_getD, List.getElem?_append_left hi, ← List.getD_eq_getElem?_getD] at hij
        exact h i j hij
      · subst hi
        rw [List.getD_eq_getElem?_getD, List.getElem?_append_right (Nat.le_refl _), Nat.sub_self] at hij
        simp only [List.getElem?_cons_zero, Option.getD_some] at hij
        obtain ⟨e, h1, h2, h3⟩ := maskE_spec ms j _ hij
        have hw : Region.waitsFor .any ops ms.length e.on = true := by
          unfold Region.waitsFor
          rw [ho]
          simp only
          rw [Array.any_eq_true']
          exact ⟨e, by simpa using h1, by simp [h2]⟩
        rcases h3 with h3 | h3
        · subst h3
          exact .one hw
        · exact .step hw (h _ _ h3)
      · rw [List.getD_eq_getElem?_getD, List.getElem?_eq_none (by rw [List.length_append, List.length_singleton]; omega)] at hij
        simp at hij
theorem mask_reach {ops : Array Oper} {i j : Nat} (h : ((masksOf ops.toList []).getD i 0).testBit j = true) : Reach ops i j :=
  masks_reach ops.toList [] (fun k o hk => by rw [List.length_nil, Nat.zero_add, ← hk, Array.getElem?_toList]) (fun i j h => by simp at h) i j h

/-! ### The static look -/
theorem zipAll_spec {α : Type} {f : Nat → α → Bool} : ∀ {l : List α} {k : Nat}, zipAll f k l = true → ∀ j x, l[j]? = some x → f (k + j) x = true
  | [], _, _, _, _, h => by simp at h
  | x :: l, k, h, j, y, hj => by
    simp only [zipAll] at h
    cases hf : f k x with
    | false => rw [hf] at h; cases h
    | true =>
      rw [hf] at h
      cases j with
      | zero => simp only [List.getElem?_cons_zero, Option.some.injEq] at hj; subst hj; exact hf
      | succ j =>
        rw [show k + (j + 1) = k + 1 + j by omega]
        exact zipAll_spec (by simpa using h) j y (by simpa using hj)
structure Stat (ops : Array Oper) (ms : List Nat) : Prop where
  grow : GrowT ops ops.size
  ord : ∀ i j o q t, ops[i]? = some o → ops[j]? = some q → i ≠ j → q.dst = some t → t ∈ readsOf ops.toList o → (j < i → (ms.getD i 0).testBit j = true) ∧ (i < j → (ms.getD j 0).testBit i = true)
theorem statOk_spec {ops : Array Oper} {ms : List Nat} (h : statOk ops.toList ms = true) : Stat ops ms := by
  unfold statOk at h
  rw [Bool.and_eq_true, Array.toArray_toList, Array.length_toList] at h
  refine ⟨GrowT.of h.1, fun i j o q t ho hq hij hd ht => ?_⟩
  have h1 := zipAll_spec h.2 i o (by rw [Array.getElem?_toList]; exact ho)
  rw [Nat.zero_add] at h1
  have h2 := zipAll_spec h1 j q (by rw [Array.getElem?_toList]; exact hq)
  rw [Nat.zero_add] at h2
  unfold ordOk at h2
  have hb : Nat.beq i j = false := by
    cases hb : Nat.beq i j with
    | false => rfl
    | true => exact absurd (Nat.eq_of_beq_eq_true hb) hij
  have hc : (readsOf ops.toList o).contains t = true := by simpa using ht
  rw [hb, hd] at h2
  simp only [cond_false, hc, cond_true] at h2
  constructor
  · intro hlt
    have : Nat.blt j i = true := by simpa using hlt
    rw [this] at h2
    exact h2
  · intro hlt
    have : Nat.blt j i = false := by
      cases hx : Nat.blt j i with
      | false => rfl
      | true => have := (by simpa using hx : j < i); omega
    rw [this] at h2
    exact h2

section
variable {X : Type} {P : Program} {bl : Nat → List EV → Option EV} {call : Caller X} {all : List Oper} {ms : List Nat}
/-! ### The run, operation by operation -/
def putF (fr : Tr EV) (d : Option Tmp) (v : EV) : Tr EV := match d with
  | none => fr
  | some t => fr.put t v
theorem Cfg.put_spec {c c' : Cfg X} {d : Option Tmp} {v : EV} (h : c.put d v = some c') : c' = { c with fr := putF c.fr d v } ∧ ∀ t, d = some t → t < c.n := by
  unfold Cfg.put at h
  split at h
  · injection h with h; subst h; exact ⟨rfl, fun t e => by cases e⟩
  · rename_i t
    split at h
    · rename_i hlt
      injection h with h
      subst h
      exact ⟨rfl, fun t' e => by injection e with e; subst e; simpa using hlt⟩
    · cases h
/-- What one operation of the run was. -/
inductive StepIs (P : Program) (bl : Nat → List EV → Option EV) (call : Caller X) (all : List Oper) (ms : List Nat) (o : Oper) (i : Nat) (c : Cfg X) : Kd → EV → Cfg X → Prop where
  | skip (hw : wantEv all (keepTr c.fr (readsOf all o)) o = some false) : StepIs P bl call all ms o i c .skip undefE { c with fr := putF c.fr o.dst undefE }
  | still (v : EV) (hw : wantEv all (keepTr c.fr (readsOf all o)) o = some true) : StepIs P bl call all ms o i c .still v { c with fr := putF c.fr o.dst v }
  | make (v : EV) (ob : LObj X) (hw : wantEv all (keepTr c.fr (readsOf all o)) o = some true) (hm : makeEv P o (keepTr c.fr (readsOf all o)) c.nx = some (v, ob)) :
      StepIs P bl call all ms o i c .make v { c with fr := putF c.fr o.dst v, nx := c.nx + 1, pd := ⟨i, c.nx, ob⟩ :: c.pd, ap := ⟨i, c.nx, ob⟩ :: c.ap }
  | mark (v : EV) (m : Mem X) (hw : wantEv all (keepTr c.fr (readsOf all o)) o = some true) (ht : turnEv P bl call o (keepTr c.fr (readsOf all o)) ⟨addP (fun q => (ms.getD i 0).testBit q) c.base.h c.pd, c.nx⟩ = some (v, m)) (hn : c.nx ≤ m.nx) :
      StepIs P bl call all ms o i c .mark v { c with fr := putF c.fr o.dst v, base := m, nx := m.nx, pd := c.pd.filter (fun p => !(ms.getD i 0).testBit p.op), mks := c.mks ++ [i], bs := c.bs ++ [m] }
theorem stepR_is {o : Oper} {i : Nat} {c c' : Cfg X} {k : Kd} {v : EV} (h : stepR P bl call all ms o i c = some (k, v, c')) : StepIs P bl call all ms o i c k v c' ∧ ∀ t, o.dst = some t → t < c.n := by
  unfold stepR at h
  split at h
  · cases h
  · rename_i hw
    split at h
    · rename_i c1 hp
      injection h with h; injection h with h1 h2; injection h2 with h2 h3
      subst h1 h2 h3
      obtain ⟨rfl, hlt⟩ := Cfg.put_spec hp
      exact ⟨.skip hw, hlt⟩
    · cases h
  · rename_i hw
    split at h
    · rename_i v1 hs
      split at h
      · rename_i c1 hp
        injection h with h; injection h with h1 h2; injection h2 with h2 h3
        subst h1 h2 h3
        obtain ⟨rfl, hlt⟩ := Cfg.put_spec hp
        exact ⟨.still _ hw, hlt⟩
      · cases h
    · split at h
      · rename_i v1 ob hm
        split at h
        · rename_i c1 hp
          injection h with h; injection h with h1 h2; injection h2 with h2 h3
          subst h1 h2 h3
          obtain ⟨rfl, hlt⟩ := Cfg.put_spec hp
          exact ⟨.make _ _ hw hm, hlt⟩
        · cases h
      · split at h
        · rename_i v1 m ht
          split at h
          · rename_i c1 hp hn
            injection h with h; injection h with h1 h2; injection h2 with h2 h3
            subst h1 h2 h3
            obtain ⟨rfl, hlt⟩ := Cfg.put_spec hp
            exact ⟨.mark _ _ hw ht (Nat.le_of_ble_eq_true hn), hlt⟩
          · cases h
        · cases h
/-- The state ahead of the k-th operation. -/
def cOf (rs : List (Rc X)) (cf : Cfg X) (k : Nat) : Cfg X := match rs[k]? with
  | some r => r.c
  | none => cf
theorem runR_spec : ∀ {l : List Oper} {i : Nat} {c : Cfg X} {rs : List (Rc X)} {cf : Cfg X}, runR P bl call all ms l i c = some (rs, cf) →
    rs.length = l.length ∧ cOf rs cf 0 = c ∧ ∀ k o, l[k]? = some o → ∃ r, rs[k]? = some r ∧ StepIs P bl call all ms o (i + k) r.c r.k r.v (cOf rs cf (k + 1)) ∧ (∀ t, o.dst = some t → t < r.c.n)
  | [], i, c, rs, cf, h => by
    simp only [runR, Option.some.injEq, Prod.mk.injEq] at h
    obtain ⟨rfl, rfl⟩ := h
    exact ⟨rfl, rfl, fun k o hk => by simp at hk⟩
  | o :: l, i, c, rs, cf, h => by
    simp only [runR] at h
    split at h
    · rename_i k v c' hs
      split at h
      · rename_i r cf' hr
        injection h with h; injection h with h1 h2
        subst h1 h2
        obtain ⟨h3, h4, h5⟩ := runR_spec hr
        obtain ⟨h6, h7⟩ := stepR_is hs
        refine ⟨by simp [h3], rfl, fun k' o' hk' => ?_⟩
        cases k' with
        | zero =>
          simp only [List.getElem?_cons_zero, Option.some.injEq] at hk'
          subst hk'
          refine ⟨⟨c, k, v⟩, rfl, ?_, h7⟩
          have : cOf (⟨c, k, v⟩ :: r) cf' (0 + 1) = c' := by
            rw [← h4]
            unfold cOf
            simp
          rw [this]
          exact h6
        | succ k' =>
          obtain ⟨r', q1, q2, q3⟩ := h5 k' o' (by simpa using hk')
          refine ⟨r', by simpa using q1, ?_, q3⟩
          rw [show i + (k' + 1) = i + 1 + k' by omega]
          exact q2
      · cases h
    · cases h
theorem lookAll_spec {cf : Cfg X} : ∀ {l : List Oper} {i : Nat} {rs : List (Rc X)}, lookAll P all ms cf l i rs = true → ∀ k o r, l[k]? = some o → rs[k]? = some r → lookR P all ms cf o (i + k) r = true
  | [], _, [], _, k, o, r, h, _ => by simp at h
  | [], _, _ :: _, h, _, _, _, _, _ => by simp [lookAll] at h
  | _ :: _, _, [], h, _, _, _, _, _ => by simp [lookAll] at h
  | o :: l, i, r :: rs, h, k, o', r', ho, hr => by
    simp only [lookAll, Bool.and_eq_true] at h
    cases k with
    | zero =>
      simp only [List.getElem?_cons_zero, Option.some.injEq] at ho hr
      subst ho hr
      exact h.1
    | succ k =>
      rw [show i + (k + 1) = i + 1 + k by omega]
      exact lookAll_spec h.2 k o' r' (by simpa using ho) (by simpa using hr)
end
end Ev
end Go.Proofs.YtmpokappjogehaaGreatDoor

namespace Go.Proofs.YtmpokappjogehaaGreatDoor
namespace Ev
open Go Go.RowKit

section
variable {X : Type} {P : Program} {bl : Nat → List EV → Option EV} {call : Caller X}
/-- A run, with all that was looked at. -/
structure RunD (P : Program) (bl : Nat → List EV → Option EV) (call : Caller X) (ops : Array Oper) (ms : List Nat) (fr0 : Tr EV) (n0 : Nat) (m0 : Mem X) (rs : List (Rc X)) (cf : Cfg X) : Prop where
  stat : Stat ops ms
  mask : ∀ i j, (ms.getD i 0).testBit j = true → Reach ops i j
  len : rs.length = ops.size
  c0 : cOf rs cf 0 = ⟨fr0, n0, m0, m0.nx, [], [], [], [m0]⟩
  step : ∀ k o, ops[k]? = some o → ∃ r, rs[k]? = some r ∧ StepIs P bl call ops.toList ms o k r.c r.k r.v (cOf rs cf (k + 1)) ∧ ∀ t, o.dst = some t → t < r.c.n
  look : ∀ k o r, ops[k]? = some o → rs[k]? = some r → lookR P ops.toList ms cf o k r = true
variable {ops : Array Oper} {ms : List Nat} {fr0 : Tr EV} {n0 : Nat} {m0 : Mem X} {rs : List (Rc X)} {cf : Cfg X}
theorem cOf_at {k : Nat} {r : Rc X} (h : rs[k]? = some r) : cOf rs cf k = r.c := by unfold cOf; rw [h]
theorem RunD.cf_at (h : RunD P bl call ops ms fr0 n0 m0 rs cf) : cOf rs cf ops.size = cf := by
  unfold cOf
  rw [List.getElem?_eq_none (by rw [h.len]; exact Nat.le_refl _)]
theorem RunD.lt (h : RunD P bl call ops ms fr0 n0 m0 rs cf) {i j : Nat} (hb : (ms.getD i 0).testBit j = true) : j < i := (h.mask i j hb).lt h.stat.grow.each
structure GoodR (ops : Array Oper) (ms : List Nat) (fr0 : Tr EV) (n0 : Nat) (m0 : Mem X) (rs : List (Rc X)) (cf : Cfg X) (k : Nat) (c : Cfg X) : Prop where
  n : c.n = n0
  bs : c.bs[c.mks.length]? = some c.base ∧ c.bs.length = c.mks.length + 1
  mkr : ∀ r u, c.mks[r]? = some u → u < k ∧ (∃ r', rs[u]? = some r' ∧ r'.k = .mark) ∧ (cOf rs cf u).mks.length = r
  pd : ∀ p ∈ c.pd, p ∈ c.ap ∧ ∀ u ∈ c.mks, (ms.getD u 0).testBit p.op = false
  ap : ∀ p ∈ c.ap, p.op < k ∧ p.id < c.nx ∧ m0.nx ≤ p.id
  pa : ∀ p ∈ c.ap, p ∈ c.pd ∨ ∃ u ∈ c.mks, (ms.getD u 0).testBit p.op = true
  ids : ∀ p ∈ c.ap, ∀ p' ∈ c.ap, p.id = p'.id ∨ p.op = p'.op → p = p'
  apc : ∀ p ∈ c.ap, ∃ r, rs[p.op]? = some r ∧ r.k = .make ∧ r.c.nx = p.id
  nx : c.base.nx ≤ c.nx ∧ m0.nx ≤ c.base.nx
  fr : ∀ t e, c.fr.get t = some e → (∃ j o r, j < k ∧ ops[j]? = some o ∧ o.dst = some t ∧ rs[j]? = some r ∧ r.v = e) ∨ (fr0.get t = some e ∧ ∀ j o, j < k → ops[j]? = some o → o.dst ≠ some t)
theorem putF_get {fr : Tr EV} {d : Option Tmp} {v e : EV} {t : Nat} (h : (putF fr d v).get t = some e) : (d = some t ∧ e = v) ∨ (d ≠ some t ∧ fr.get t = some e) := by
  cases d with
  | none => exact .inr ⟨by simp, h⟩
  | some x =>
    rcases Tr.get_put h with ⟨rfl, rfl⟩ | ⟨h1, h2⟩
    · exact .inl ⟨rfl, rfl⟩
    · exact .inr ⟨fun e => h1 (by injection e with e; exact e.symm), h2⟩
theorem RunD.good (h : RunD P bl call ops ms fr0 n0 m0 rs cf) : ∀ k, k ≤ ops.size → GoodR ops ms fr0 n0 m0 rs cf k (cOf rs cf k) := by
  intro k
  induction k with
  | zero =>
    intro _
    rw [h.c0]
    exact ⟨rfl, ⟨rfl, rfl⟩, fun r u hu => by simp at hu, fun p hp => by simp at hp, fun p hp => by simp at hp, fun p hp => by simp at hp, fun p hp => by simp at hp, fun p hp => by simp at hp, ⟨Nat.le_refl _, Nat.le_refl _⟩, fun t e he => .inr ⟨he, fun j o hj => by omega⟩⟩
  | succ k ih =>
    intro hk
    have g := ih (by omega)
    have hk' : k < ops.size := by omega
    obtain ⟨r, hr, hs, hlt⟩ := h.step k ops[k] (Array.getElem?_eq_getElem hk')
    rw [cOf_at hr] at g
    have hfr : ∀ v, r.v = v → ∀ t e, (putF r.c.fr ops[k].dst v).get t = some e → (∃ j o r, j < k + 1 ∧ ops[j]? = some o ∧ o.dst = some t ∧ rs[j]? = some r ∧ r.v = e) ∨ (fr0.get t = some e ∧ ∀ j o, j < k + 1 → ops[j]? = some o → o.dst ≠ some t) := by
      intro v hv t e he
      rcases putF_get he with ⟨h1, h2⟩ | ⟨h1, h2⟩
      · exact .inl ⟨k, ops[k], r, Nat.lt_succ_self k, Array.getElem?_eq_getElem hk', h1, hr, by rw [hv, h2]⟩
      · rcases g.fr t e h2 with ⟨j, o, r', q1, q2, q3, q4, q5⟩ | ⟨q1, q2⟩
        · exact .inl ⟨j, o, r', by omega, q2, q3, q4, q5⟩
        · refine .inr ⟨q1, fun j o hj ho => ?_⟩
          rcases Nat.lt_succ_iff_lt_or_eq.1 hj with hj | rfl
          · exact q2 j o hj ho
          · rw [Array.getElem?_eq_getElem hk'] at ho
            injection ho with ho
            rw [← ho]
            exact h1
    have hmk : ∀ r' u, r.c.mks[r']? = some u → u < k + 1 ∧ (∃ r'', rs[u]? = some r'' ∧ r''.k = .mark) ∧ (cOf rs cf u).mks.length = r' := fun r' u hu => ⟨by have := (g.mkr r' u hu).1; omega, (g.mkr r' u hu).2⟩
    generalize hC : cOf rs cf (k + 1) = c' at hs
    generalize hK : r.k = kk at hs
    generalize hV : r.v = vv at hs
    cases hs with
    | skip hw => exact ⟨g.n, g.bs, hmk, g.pd, fun p hp => by obtain ⟨q1, q2, q3⟩ := g.ap p hp; exact ⟨by omega, q2, q3⟩, g.pa, g.ids, g.apc, g.nx, hfr _ hV⟩
    | still v hw => exact ⟨g.n, g.bs, hmk, g.pd, fun p hp => by obtain ⟨q1, q2, q3⟩ := g.ap p hp; exact ⟨by omega, q2, q3⟩, g.pa, g.ids, g.apc, g.nx, hfr _ hV⟩
    | make v ob hw hm =>
      refine ⟨g.n, g.bs, hmk, fun p hp => ?_, fun p hp => ?_, fun p hp => ?_, fun p hp p' hp' he => ?_, fun p hp => ?_, ⟨by have := g.nx.1; exact Nat.le_succ_of_le this, g.nx.2⟩, hfr _ hV⟩
      · rcases List.mem_cons.1 hp with rfl | hp
        · refine ⟨List.mem_cons_self .., fun u hu => ?_⟩
          obtain ⟨r', hr'⟩ := List.getElem?_of_mem hu
          have h1 := (g.mkr r' u hr').1
          cases hb : (ms.getD u 0).testBit k with
          | false => rfl
          | true => have := h.lt hb; omega
        · obtain ⟨q1, q2⟩ := g.pd p hp
          exact ⟨List.mem_cons_of_mem _ q1, q2⟩
      · rcases List.mem_cons.1 hp with rfl | hp
        · exact ⟨Nat.lt_succ_self _, Nat.lt_succ_self _, Nat.le_trans g.nx.2 g.nx.1⟩
        · obtain ⟨q1, q2, q3⟩ := g.ap p hp
          exact ⟨by omega, Nat.lt_succ_of_lt q2, q3⟩
      · rcases List.mem_cons.1 hp with rfl | hp
        · exact .inl (List.mem_cons_self ..)
        · rcases g.pa p hp with q | q
          · exact .inl (List.mem_cons_of_mem _ q)
          · exact .inr q
      · rcases List.mem_cons.1 hp with rfl | hp
        · rcases List.mem_cons.1 hp' with rfl | hp'
          · rfl
          · obtain ⟨q1, q2, q3⟩ := g.ap p' hp'
            rcases he with he | he
            · have e : r.c.nx = p'.id := he; omega
            · have e : k = p'.op := he; omega
        · rcases List.mem_cons.1 hp' with rfl | hp'
          · obtain ⟨q1, q2, q3⟩ := g.ap p hp
            rcases he with he | he
            · have e : p.id = r.c.nx := he; omega
            · have e : p.op = k := he; omega
          · exact g.ids p hp p' hp' he
      · rcases List.mem_cons.1 hp with rfl | hp
        · exact ⟨r, hr, hK, rfl⟩
        · exact g.apc p hp
    | mark v m hw ht hn =>
      refine ⟨g.n, ⟨?_, ?_⟩, fun r' u hu => ?_, fun p hp => ?_, fun p hp => ?_, fun p hp => ?_, g.ids, g.apc, ⟨Nat.le_refl _, Nat.le_trans (Nat.le_trans g.nx.2 g.nx.1) hn⟩, hfr _ hV⟩
      · show (r.c.bs ++ [m])[(r.c.mks ++ [k]).length]? = some m
        rw [List.length_append, List.length_singleton, ← g.bs.2, List.getElem?_append_right (Nat.le_refl _), Nat.sub_self]
        rfl
      · show (r.c.bs ++ [m]).length = (r.c.mks ++ [k]).length + 1
        rw [List.length_append, List.length_append, List.length_singleton, List.length_singleton, g.bs.2]
      · have hu' : (r.c.mks ++ [k])[r']? = some u := hu
        rcases Nat.lt_or_ge r' r.c.mks.length with hl | hl
        · rw [List.getElem?_append_left hl] at hu'
          exact hmk r' u hu'
        · rw [List.getElem?_append_right hl] at hu'
          have h0 : r' - r.c.mks.length = 0 := by
            have := (List.getElem?_eq_some_iff.1 hu').1
            simp at this
            omega
          rw [h0] at hu'
          simp only [List.getElem?_cons_zero, Option.some.injEq] at hu'
          subst hu'
          exact ⟨Nat.lt_succ_self _, ⟨r, hr, hK⟩, by rw [cOf_at hr]; omega⟩
      · have hp' : p ∈ r.c.pd.filter (fun p => !(ms.getD k 0).testBit p.op) := hp
        rw [List.mem_filter] at hp'
        obtain ⟨q1, q2⟩ := g.pd p hp'.1
        refine ⟨q1, fun u hu => ?_⟩
        have hu' : u ∈ r.c.mks ++ [k] := hu
        rcases List.mem_append.1 hu' with hu' | hu'
        · exact q2 u hu'
        · rw [List.mem_singleton] at hu'
          subst hu'
          simpa using hp'.2
      · obtain ⟨q1, q2, q3⟩ := g.ap p hp
        exact ⟨by omega, Nat.lt_of_lt_of_le q2 hn, q3⟩
      · show p ∈ r.c.pd.filter (fun p => !(ms.getD k 0).testBit p.op) ∨ ∃ u ∈ r.c.mks ++ [k], (ms.getD u 0).testBit p.op = true
        cases hb : (ms.getD k 0).testBit p.op with
        | true => exact .inr ⟨k, by simp, hb⟩
        | false =>
          rcases g.pa p hp with q | ⟨u, q1, q2⟩
          · exact .inl (List.mem_filter.2 ⟨q, by simpa using hb⟩)
          · exact .inr ⟨u, List.mem_append_left _ q1, q2⟩
/-- What grows along the run. -/
structure Along (c c' : Cfg X) : Prop where
  mks : c.mks <+: c'.mks
  bs : c.bs <+: c'.bs
  ap : ∀ p ∈ c.ap, p ∈ c'.ap
  nx : c.nx ≤ c'.nx
theorem Along.refl (c : Cfg X) : Along c c := ⟨List.prefix_rfl, List.prefix_rfl, fun _ h => h, Nat.le_refl _⟩
theorem Along.trans {c c' c'' : Cfg X} (h : Along c c') (k : Along c' c'') : Along c c'' := ⟨h.mks.trans k.mks, h.bs.trans k.bs, fun p hp => k.ap p (h.ap p hp), Nat.le_trans h.nx k.nx⟩
theorem StepIs.along {all : List Oper} {o : Oper} {i : Nat} {c c' : Cfg X} {k : Kd} {v : EV} (h : StepIs P bl call all ms o i c k v c') : Along c c' := by
  cases h with
  | skip => exact ⟨List.prefix_rfl, List.prefix_rfl, fun _ h => h, Nat.le_refl _⟩
  | still => exact ⟨List.prefix_rfl, List.prefix_rfl, fun _ h => h, Nat.le_refl _⟩
  | make => exact ⟨List.prefix_rfl, List.prefix_rfl, fun _ h => List.mem_cons_of_mem _ h, Nat.le_succ _⟩
  | mark _ _ _ _ hn => exact ⟨List.prefix_append .., List.prefix_append .., fun _ h => h, hn⟩
theorem RunD.along (h : RunD P bl call ops ms fr0 n0 m0 rs cf) : ∀ d k, k + d ≤ ops.size → Along (cOf rs cf k) (cOf rs cf (k + d))
  | 0, k, _ => Along.refl _
  | d + 1, k, hk => by
    have hk' : k + d < ops.size := by omega
    obtain ⟨r, hr, hs, _⟩ := h.step (k + d) ops[k + d] (Array.getElem?_eq_getElem hk')
    have h1 := h.along d k (by omega)
    rw [cOf_at hr] at h1
    exact h1.trans hs.along
theorem RunD.to_end (h : RunD P bl call ops ms fr0 n0 m0 rs cf) {k : Nat} (hk : k ≤ ops.size) : Along (cOf rs cf k) cf := by
  have := h.along (ops.size - k) k (by omega)
  rw [show k + (ops.size - k) = ops.size by omega, h.cf_at] at this
  exact this
theorem prefix_get {α : Type} {l l' : List α} (h : l <+: l') {i : Nat} {x : α} (hx : l[i]? = some x) : l'[i]? = some x := by
  obtain ⟨r, rfl⟩ := h
  rw [List.getElem?_append_left (List.getElem?_eq_some_iff.1 hx).1]
  exact hx

/-! ### Stages -/
theorem hiOf_le (ms : List Nat) (i : Nat) : ∀ (l : List Nat), hiOf ms i l ≤ l.length
  | [] => Nat.le_refl _
  | u :: l => by
    simp only [hiOf]
    cases (ms.getD u 0).testBit i with
    | true => exact Nat.zero_le _
    | false => simp only [cond_false, List.length_cons]; exact Nat.succ_le_succ (hiOf_le ms i l)
theorem hiOf_below (ms : List Nat) (i : Nat) : ∀ (l : List Nat) (r u : Nat), l[r]? = some u → r < hiOf ms i l → (ms.getD u 0).testBit i = false
  | [], _, _, h, _ => by simp at h
  | x :: l, r, u, h, hr => by
    simp only [hiOf] at hr
    cases hb : (ms.getD x 0).testBit i with
    | true => rw [hb] at hr; simp at hr
    | false =>
      rw [hb] at hr
      simp only [cond_false] at hr
      cases r with
      | zero => simp only [List.getElem?_cons_zero, Option.some.injEq] at h; subst h; exact hb
      | succ r => exact hiOf_below ms i l r u (by simpa using h) (by omega)
theorem hiOf_at (ms : List Nat) (i : Nat) : ∀ (l : List Nat), hiOf ms i l < l.length → ∃ u, l[hiOf ms i l]? = some u ∧ (ms.getD u 0).testBit i = true
  | [], h => by simp [hiOf] at h
  | x :: l, h => by
    simp only [hiOf] at h ⊢
    cases hb : (ms.getD x 0).testBit i with
    | true => exact ⟨x, rfl, hb⟩
    | false =>
      rw [hb] at h
      simp only [cond_false, List.length_cons] at h
      obtain ⟨u, h1, h2⟩ := hiOf_at ms i l (by omega)
      exact ⟨u, by simp only [cond_false, List.getElem?_cons_succ]; exact h1, h2⟩
theorem hiOf_ge (ms : List Nat) (i s : Nat) : ∀ (l : List Nat), s ≤ l.length → (∀ r u, l[r]? = some u → r < s → (ms.getD u 0).testBit i = false) → s ≤ hiOf ms i l
  | [], h, _ => h
  | x :: l, h, hl => by
    cases s with
    | zero => exact Nat.zero_le _
    | succ s =>
      simp only [hiOf]
      rw [hl 0 x rfl (Nat.succ_pos _)]
      simp only [cond_false]
      exact Nat.succ_le_succ (hiOf_ge ms i s l (by simpa using h) (fun r u hr hs => hl (r + 1) u (by simpa using hr) (by omega)))
theorem loOf_le (m s : Nat) : ∀ (l : List Nat) (k r : Nat), r ≤ s → (∀ j u, l[j]? = some u → m.testBit u = true → k + j < s) → loOf m l k r ≤ s
  | [], _, _, h, _ => h
  | x :: l, k, r, h, hl => by
    simp only [loOf]
    refine loOf_le m s l (k + 1) _ ?_ (fun j u hj hb => by have := hl (j + 1) u (by simpa using hj) hb; omega)
    cases hb : m.testBit x with
    | true => have := hl 0 x rfl hb; simp only [cond_true]; omega
    | false => exact h
theorem stages_spec {lo hi : Nat} {f : Nat → Bool} : ∀ {L : Nat}, stages lo hi f L = true → ∀ s, s < L → lo ≤ s → s ≤ hi → f s = true
  | 0, _, s, h, _, _ => by omega
  | L + 1, h, s, hs, h1, h2 => by
    simp only [stages, Bool.and_eq_true] at h
    rcases Nat.lt_succ_iff_lt_or_eq.1 hs with hs | rfl
    · exact stages_spec h.2 s hs h1 h2
    · have h3 := h.1
      have e1 : Nat.ble lo s = true := Nat.ble_eq_true_of_le h1
      have e2 : Nat.ble s hi = true := Nat.ble_eq_true_of_le h2
      rw [e1, e2] at h3
      exact h3
end
end Ev
end Go.Proofs.YtmpokappjogehaaGreatDoor
