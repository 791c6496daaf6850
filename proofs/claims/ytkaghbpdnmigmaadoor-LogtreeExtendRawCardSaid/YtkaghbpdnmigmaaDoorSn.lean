/- A region that draws its order, whose operations make blocks and store into the blocks that they made: each operation is walked once, whatever the order. Plain lemmas over any program. -/
import Derived.Test.YtkaghbpdnmigmaaDoorSt
import Derived.Test.YtkaghbpdnmigmaaDoorShaL
namespace Go.Proofs.YtkaghbpdnmigmaaDoor
open Go.RowKit

def setB (d : Nat → Bool) (i : Nat) : Nat → Bool := fun j => if j = i then true else d j

theorem puts_none : ∀ (ds : List (Option Tmp)) (k i : Nat) (u : Nat → Value) (a : Act) (v : Value), ds[i]? = some none → puts ds k (updV u (k + i) v) a = puts ds k u a
  | [], _, _, _, _, _, h => by simp at h
  | d :: r, k, 0, u, a, v, h => by
    have hd : d = none := by simpa using h
    subst hd
    rw [puts, puts]
    exact puts_congr r (k + 1) _ _ _ (fun j hj => by simp only [updV]; rw [if_neg (by omega)])
  | d :: r, k, i + 1, u, a, v, h => by
    rw [puts, puts, show updV u (k + (i + 1)) v k = u k by simp only [updV]; rw [if_neg (by omega)], show k + (i + 1) = (k + 1) + i by omega]
    exact puts_none r (k + 1) i u _ v (by simpa using h)
theorem puts_put2 : ∀ (ds : List (Option Tmp)) (k i : Nat) (u : Nat → Value) (a : Act) (x : Option Tmp) (v : Value), (ds.filterMap id).Nodup → ds[i]? = some x → (puts ds k u a).put x v = puts ds k (updV u (k + i) v) a
  | ds, k, i, u, a, none, v, _, h => by rw [puts_none ds k i u a v h]; rfl
  | [], _, _, _, _, some _, _, _, h => by simp at h
  | d :: r, k, 0, u, a, some t, v, hn, h => by
    have hx : d = some t := by simpa using h
    subst hx
    have hnr : some t ∉ r := by
      intro hm
      simp only [List.filterMap_cons_some (show id (some t) = some t from rfl), List.nodup_cons] at hn
      exact hn.1 (List.mem_filterMap.2 ⟨_, hm, rfl⟩)
    rw [puts, puts, puts_later r (k + 1) u _ (some t) v hnr, put_twice]
    rw [show updV u (k + 0) v k = v by simp [updV]]
    exact puts_congr r (k + 1) _ _ _ (fun j hj => by simp only [updV]; rw [if_neg (by omega)])
  | d :: r, k, i + 1, u, a, some t, v, hn, h => by
    have hn' : (r.filterMap id).Nodup := by
      cases d with
      | none => simpa using hn
      | some t' => simp only [List.filterMap_cons_some (show id (some t') = some t' from rfl), List.nodup_cons] at hn; exact hn.2
    rw [puts, puts, show updV u (k + (i + 1)) v k = u k by simp only [updV]; rw [if_neg (by omega)], show k + (i + 1) = (k + 1) + i by omega]
    exact puts_put2 r (k + 1) i u _ (some t) v hn' (by simpa using h)

/-- As GrowS, but any number of operations may yield nothing. -/
def growT (ops : Array Oper) (n : Nat) : Bool :=
  decide (n ≤ ops.size) &&
  ((List.range n).all fun i => match ops[i]? with | some o => o.after.all (fun e => !Region.binds .any e || decide (e.on < i)) | none => false) &&
  decide (((ops.toList.take n).map (·.dst)).filterMap id).Nodup &&
  (decide (n = ops.size) || (Region.sinkB .any ops n && Region.chainB .any ops n)) &&
  Region.seqB .any ops (ops.size - n) n (Array.replicate n true ++ Array.replicate (ops.size - n) false)
structure GrowT (ops : Array Oper) (n : Nat) : Prop where
  le : n ≤ ops.size
  each : ∀ i o, i < n → ops[i]? = some o → ∀ e ∈ o.after, Region.binds .any e = true → e.on < i
  nodup : (((ops.toList.take n).map (·.dst)).filterMap id).Nodup
  tail : n = ops.size ∨ (Region.sinkB .any ops n = true ∧ Region.chainB .any ops n = true)
  seq : Region.seqB .any ops (ops.size - n) n (Array.replicate n true ++ Array.replicate (ops.size - n) false) = true
theorem GrowT.of {ops : Array Oper} {n : Nat} (h : growT ops n = true) : GrowT ops n := by
  simp only [growT, Bool.and_eq_true, Bool.or_eq_true, decide_eq_true_eq] at h
  obtain ⟨⟨⟨⟨h1, h2⟩, h3⟩, h4⟩, h5⟩ := h
  exact ⟨h1, each_of h2, h3, h4, h5⟩

theorem inv_go {P : Program} {ops : Array Oper} {Q : Exit → Act → World → Prop} {a : Act} {n : Nat} (ok : GrowT ops n) (Inv : (Nat → Bool) → (Nat → Value) → World → Prop)
    (hh : ∀ i o, i < n → ops[i]? = some o → ∀ d u w', d i = false → (∀ j k, d j = true → Region.waitsFor .any ops j k = true → d k = true) → (∀ j, Region.waitsFor .any ops i j = true → d j = true ∧ j < n) → Inv d u w' →
      wpW P ops Q o (puts ((ops.toList.take n).map (·.dst)) 0 u a) w' (fun a' w'' => ∃ v, a' = (puts ((ops.toList.take n).map (·.dst)) 0 u a).put o.dst v ∧ Inv (setB d i) (updV u i v) w''))
    (ht : ∀ d u w', (∀ j, j < n → d j = true) → Inv d u w' → wpList P ops Q (ops.toList.drop n) (puts ((ops.toList.take n).map (·.dst)) 0 u a) w') :
    ∀ (f : Nat) (listed : Array Bool) (u : Nat → Value) (w' : World), HeadInv .any ops n listed → countU (fun j => !listed.getD j false) n = f → Inv (fun j => listed.getD j false) u w' →
      wpAny P .any ops Q (f + (ops.size - n)) listed (puts ((ops.toList.take n).map (·.dst)) 0 u a) w' := by
  intro f
  induction f with
  | zero =>
    intro listed u w' inv hc hI
    have hall : ∀ j, j < n → listed.getD j false = true := fun j hj => by simpa using countU_zero _ n hc j hj
    have he : listed = Array.replicate n true ++ Array.replicate (ops.size - n) false := by
      apply Array.ext
      · rw [inv.size]; have := ok.le; simp; omega
      · intro i h1 h2
        rcases Nat.lt_or_ge i n with hi | hi
        · have := hall i hi
          rw [Array.getElem_append_left (by simpa using hi)]
          simpa [h1] using this
        · have := inv.tail i hi (by rw [← inv.size]; exact h1)
          rw [Array.getElem_append_right (by simpa using hi)]
          simpa [h1] using this
    have htl := ht _ u w' hall hI
    subst he
    have hdl : (ops.toList.drop n).length = ops.size - n := by simp
    have := wpAny_of_seq (P := P) (md := .any) (ops := ops) (Q' := Q) (ops.toList.drop n) n _ (puts ((ops.toList.take n).map (·.dst)) 0 u a) w' (fun j => by simp [List.getElem?_drop]) (by rw [hdl]; exact ok.seq) htl
    rw [hdl] at this
    rwa [Nat.zero_add]
  | succ f ih =>
    intro listed u w' inv hc hI
    obtain ⟨j, hj, hun, hless⟩ := countU_pos (fun j => !listed.getD j false) n (by omega)
    have hjs : j < ops.size := by have := ok.le; omega
    have hunj : listed.getD j true = false := getD_in (by rw [inv.size]; exact hjs) (by simpa using hun)
    have hjr : j ∈ Region.ready .any ops listed := by
      refine mem_ready.2 ⟨hunj, ops[j], Array.getElem?_eq_getElem hjs, fun e he hb => ?_⟩
      have := ok.each j _ hj (Array.getElem?_eq_getElem hjs) e he hb
      simpa using hless e.on this
    rw [show f + 1 + (ops.size - n) = (f + (ops.size - n)) + 1 by omega]
    refine ⟨fun h0 => (by rw [h0] at hjr; cases hjr), fun i hi => ?_⟩
    obtain ⟨hiu, o, ho, hpre⟩ := mem_ready.1 hi
    have his : i < ops.size := (Array.getElem?_eq_some_iff.1 ho).1
    have hin : i < n := by
      rcases ok.tail with h | ⟨hs, hcn⟩
      · omega
      · rcases Nat.lt_or_ge i n with h | h
        · exact h
        · exact absurd hi (tail_waits hs hcn (by omega) inv (n - j) j rfl hj hunj i h)
    have hiF : listed.getD i false = false := getD_both hiu
    have hol : (ops.toList.take n)[i]? = some o := by rw [List.getElem?_take, if_pos hin]; simpa using ho
    have hw := hh i o hin ho (fun j => listed.getD j false) u w' hiF (fun j k hj hk => by
      obtain ⟨o', ho', e, he, hb, hon⟩ := Region.waitsFor_spec hk
      subst hon
      exact inv.closed j o' ho' hj e he hb) (fun k hk => by
      obtain ⟨o', ho', e, he, hb, hon⟩ := Region.waitsFor_spec hk
      have : o' = o := Option.some.inj (ho'.symm.trans ho)
      subst this
      subst hon
      have := ok.each i _ hin ho e he hb
      exact ⟨hpre e he hb, by omega⟩) hI
    refine wpOp_of_wpW ho (wpW_mono (fun a' w'' hK => ?_) hw)
    obtain ⟨v, rfl, hI'⟩ := hK
    rw [puts_put2 _ 0 i u a o.dst v ok.nodup (by rw [List.getElem?_map, hol]; rfl), Nat.zero_add]
    have hset : (listed.setIfInBounds i true).getD i false = true := by
      have hi' : i < listed.size := by rw [inv.size]; exact his
      simp [hi']
    have hfun : (fun j => (listed.setIfInBounds i true).getD j false) = setB (fun j => listed.getD j false) i := by
      funext j
      unfold setB
      split
      · rename_i e
        subst e
        exact hset
      · rename_i e
        exact getD_set_ne false (fun h => e h.symm)
    refine ih (listed.setIfInBounds i true) (updV u i v) w'' (inv.set hi hin) ?_ (by rw [hfun]; exact hI')
    have := countU_less (fun j => !listed.getD j false) (fun j => !(listed.setIfInBounds i true).getD j false) i (by simp only [hiF]; rfl) (by simp only [hset]; rfl) (fun j hj => by simp only [getD_set_ne false (Ne.symm hj)]) n hin
    omega

/-! ### Blocks made and written -/
/-- What the block that operation j made holds. -/
def contN : List (Nat × Nat × Array Value) → Array Value → Nat → (Nat → Bool) → Array Value
  | [], cs, _, _ => cs
  | (i, j', cs') :: r, cs, j, d => if (j' == j && d i) = true then cs' else contN r cs j d
theorem contN_other {i j : Nat} {d : Nat → Bool} : ∀ (WL : List (Nat × Nat × Array Value)) (cs : Array Value), (∀ x ∈ WL, x.2.1 = j → x.1 ≠ i) → contN WL cs j (setB d i) = contN WL cs j d
  | [], _, _ => rfl
  | (i', j', cs') :: r, cs, h => by
    have ih := contN_other (d := d) r cs (fun x hx => h x (by simp [hx]))
    unfold contN
    rw [ih]
    by_cases e : j' = j
    · have hne : i' ≠ i := h (i', j', cs') (by simp) e
      simp only [setB, if_neg hne]
    · have : (j' == j) = false := by simpa using e
      simp only [this, Bool.false_and]
theorem contN_none {j : Nat} {d : Nat → Bool} : ∀ (WL : List (Nat × Nat × Array Value)) (cs : Array Value), (∀ x ∈ WL, x.2.1 = j → d x.1 = false) → contN WL cs j d = cs
  | [], _, _ => rfl
  | (i', j', cs') :: r, cs, h => by
    have ih := contN_none (d := d) r cs (fun x hx => h x (by simp [hx]))
    unfold contN
    rw [ih]
    by_cases e : j' = j
    · have : d i' = false := h (i', j', cs') (by simp) e
      simp [this]
    · have : (j' == j) = false := by simpa using e
      simp only [this, Bool.false_and, Bool.false_eq_true, if_false]
theorem contN_hit {j i : Nat} {c : Array Value} {d : Nat → Bool} (hd : d i = true) : ∀ (WL : List (Nat × Nat × Array Value)) (cs : Array Value), (i, j, c) ∈ WL → (∀ x ∈ WL, x.2.1 = j → x = (i, j, c)) → contN WL cs j d = c
  | [], _, h, _ => by cases h
  | (i', j', cs') :: r, cs, h, hu => by
    unfold contN
    by_cases e : j' = j
    · have := hu (i', j', cs') (by simp) e
      simp only [Prod.mk.injEq] at this
      obtain ⟨rfl, rfl, rfl⟩ := this
      simp [hd]
    · have hr : (i, j, c) ∈ r := by
        rcases List.mem_cons.1 h with h' | h'
        · simp only [Prod.mk.injEq] at h'
          exact absurd h'.2.1.symm e
        · exact h'
      have : (j' == j) = false := by simpa using e
      simp only [this, Bool.false_and, Bool.false_eq_true, if_false]
      exact contN_hit hd r cs hr (fun x hx => hu x (by simp [hx]))
theorem contN_congr {j : Nat} {d d' : Nat → Bool} : ∀ (WL : List (Nat × Nat × Array Value)) (cs : Array Value), (∀ x ∈ WL, d x.1 = d' x.1) → contN WL cs j d = contN WL cs j d'
  | [], _, _ => rfl
  | (i', j', cs') :: r, cs, h => by
    have ih := contN_congr r cs (fun x hx => h x (by simp [hx])) (d := d) (d' := d') (j := j)
    unfold contN
    rw [ih, h (i', j', cs') (by simp)]

def factV (RL : List (Value → Prop)) (j : Nat) : Value → Prop := RL.getD j (fun _ => True)

structure InvN (w : World) (ty : TypeId) (RL : List (Value → Prop)) (RW : List (Value → World → Prop)) (FL : List (Nat × Array Value)) (WL : List (Nat × Nat × Array Value)) (n : Nat) (d : Nat → Bool) (u : Nat → Value) (w' : World) : Prop where
  fr : Fr Nothing w w'
  facts : ∀ j, j < n → d j = true → factV RL j (u j)
  mem : (∀ x ∈ WL, d x.1 = false) → ∀ j, j < n → d j = true → factOf RW j (u j) w'
  news : ∀ j cs, (j, cs) ∈ FL → d j = true → ∃ g, u j = .pointer (some ⟨g, 0, none⟩) ∧ w.heap.size ≤ g ∧ Blk w' g ty (contN WL cs j d)
  apart : ∀ j cs j' cs', (j, cs) ∈ FL → (j', cs') ∈ FL → j ≠ j' → d j = true → d j' = true → u j ≠ u j'

def WriteN (a : Act) (d : Option Tmp) (R : Value → Prop) (g : Nat) (ty : TypeId) (cs : Array Value) (w' : World) (a' : Act) (w'' : World) : Prop := ∃ v, a' = a.put d v ∧ R v ∧ Blk w'' g ty cs ∧ Fr (fun k => k = g) w' w''
def FreshN (a : Act) (d : Option Tmp) (R : Value → Prop) (RW : Value → World → Prop) (ty : TypeId) (cs : Array Value) (w' : World) (a' : Act) (w'' : World) : Prop := ∃ v, a' = a.put d v ∧ R v ∧ RW v w'' ∧ v = .pointer (some ⟨w'.heap.size, 0, none⟩) ∧ NewBlk w' w'' ty cs
def NormN (a : Act) (d : Option Tmp) (R : Value → Prop) (RW : Value → World → Prop) (w' : World) (a' : Act) (w'' : World) : Prop := ∃ v, a' = a.put d v ∧ R v ∧ RW v w'' ∧ Fr Nothing w' w''

/-- What is to be shown of an operation. -/
def obN (P : Program) (ops : Array Oper) (Q : Exit → Act → World → Prop) (w : World) (ty : TypeId) (F : (Nat → Value) → Act) (RL : List (Value → Prop)) (RW : List (Value → World → Prop)) (FL : List (Nat × Array Value)) (WL : List (Nat × Nat × Array Value)) (i : Nat) (o : Oper) : Prop :=
  match WL.find? (fun x => x.1 == i) with
  | some (_, j, cs') => ∀ u w' g, Fr Nothing w w' → (∀ j, Region.waitsFor .any ops i j = true → factV RL j (u j)) → u j = .pointer (some ⟨g, 0, none⟩) → (∃ cs, (j, cs) ∈ FL ∧ Blk w' g ty cs) →
      wpW P ops Q o (F u) w' (WriteN (F u) o.dst (factV RL i) g ty cs' w')
  | none => match FL.find? (fun x => x.1 == i) with
    | some (_, cs) => ∀ u w', Fr Nothing w w' → (∀ j, Region.waitsFor .any ops i j = true → factV RL j (u j)) →
        wpW P ops Q o (F u) w' (FreshN (F u) o.dst (factV RL i) (factOf RW i) ty cs w')
    | none => ∀ u w', Fr Nothing w w' → (∀ j, Region.waitsFor .any ops i j = true → factV RL j (u j)) → (WL.all (fun x => Region.waitsFor .any ops x.1 i) = true → ∀ j, Region.waitsFor .any ops i j = true → factOf RW j (u j) w') →
        wpW P ops Q o (F u) w' (NormN (F u) o.dst (factV RL i) (factOf RW i) w')
def headN (P : Program) (ops : Array Oper) (Q : Exit → Act → World → Prop) (w : World) (ty : TypeId) (F : (Nat → Value) → Act) (RL : List (Value → Prop)) (RW : List (Value → World → Prop)) (FL : List (Nat × Array Value)) (WL : List (Nat × Nat × Array Value)) : Nat → List Oper → Prop
  | _, [] => True
  | i, o :: r => obN P ops Q w ty F RL RW FL WL i o ∧ headN P ops Q w ty F RL RW FL WL (i + 1) r
theorem headN.at_ {P : Program} {ops : Array Oper} {Q : Exit → Act → World → Prop} {w : World} {ty : TypeId} {F : (Nat → Value) → Act} {RL : List (Value → Prop)} {RW : List (Value → World → Prop)} {FL : List (Nat × Array Value)} {WL : List (Nat × Nat × Array Value)} :
    ∀ {l : List Oper} {k : Nat}, headN P ops Q w ty F RL RW FL WL k l → ∀ i o, l[i]? = some o → obN P ops Q w ty F RL RW FL WL (k + i) o
  | [], _, _, _, _, h => by simp at h
  | o' :: r, k, h, 0, o, ho => by
    have : o' = o := by simpa using ho
    subst this
    exact h.1
  | o' :: r, k, h, i + 1, o, ho => by
    have := headN.at_ h.2 i o (by simpa using ho)
    rw [show k + 1 + i = k + (i + 1) by omega] at this
    exact this

def okN (ops : Array Oper) (n : Nat) (FL : List Nat) (WL : List (Nat × Nat)) : Bool :=
  FL.all (fun j => decide (j < n)) && WL.all (fun x => decide (x.1 < n) && FL.contains x.2 && Region.waitsFor .any ops x.1 x.2 && !FL.contains x.1) && decide (FL.Nodup) && decide ((WL.map (·.2)).Nodup) && decide ((WL.map (·.1)).Nodup)

theorem nodup_map {α : Type} {f : α → Nat} : ∀ {l : List α}, (l.map f).Nodup → ∀ x ∈ l, ∀ y ∈ l, f x = f y → x = y
  | [], _, x, hx, _, _, _ => by cases hx
  | z :: r, h, x, hx, y, hy, e => by
    rw [List.map_cons, List.nodup_cons] at h
    rcases List.mem_cons.1 hx with rfl | hx' <;> rcases List.mem_cons.1 hy with rfl | hy'
    · rfl
    · exact absurd (List.mem_map.2 ⟨y, hy', e.symm⟩) h.1
    · exact absurd (List.mem_map.2 ⟨x, hx', e⟩) h.1
    · exact nodup_map h.2 x hx' y hy' e

theorem wp_region_new {P : Program} {id : Nat} {Q : Exit → Act → World → Prop} {a : Act} {w : World} {l : List Oper} (n : Nat) (ty : TypeId) (RL : List (Value → Prop)) (RW : List (Value → World → Prop)) (FL : List (Nat × Array Value)) (WL : List (Nat × Nat × Array Value)) (hm : P.follows .mixedOrders = true) (hg : growT l.toArray n = true)
    (hok : okN l.toArray n (FL.map (·.1)) (WL.map fun x => (x.1, x.2.1)) = true)
    (hst : StableL Nothing w RW)
    (hh : headN P l.toArray Q w ty (fun u => puts ((l.take n).map (·.dst)) 0 u a) RL RW FL WL 0 (l.take n))
    (ht : ∀ u w', Fr Nothing w w' → (∀ j, j < n → factV RL j (u j)) → (∀ j cs, (j, cs) ∈ FL → ∃ g, u j = .pointer (some ⟨g, 0, none⟩) ∧ w.heap.size ≤ g ∧ Blk w' g ty (contN WL cs j (fun _ => true))) →
      (∀ j cs j' cs', (j, cs) ∈ FL → (j', cs') ∈ FL → j ≠ j' → u j ≠ u j') → wpList P l.toArray Q (l.drop n) (puts ((l.take n).map (·.dst)) 0 u a) w') : (Code.region id l.toArray true).wp P Q a w := by
  have ok := GrowT.of hg
  simp only [okN, Bool.and_eq_true, List.all_eq_true, decide_eq_true_eq, Bool.not_eq_true'] at hok
  obtain ⟨⟨⟨⟨k1, k2⟩, k3⟩, k4⟩, k5⟩ := hok
  have F1 : ∀ j cs, (j, cs) ∈ FL → j < n := fun j cs h => k1 j (List.mem_map.2 ⟨_, h, rfl⟩)
  have W1 : ∀ i j c, (i, j, c) ∈ WL → i < n ∧ (∃ cs, (j, cs) ∈ FL) ∧ Region.waitsFor .any l.toArray i j = true ∧ ∀ cs, (i, cs) ∉ FL := by
    intro i j c h
    obtain ⟨⟨⟨h1, h2⟩, h3⟩, h4⟩ := k2 (i, j) (List.mem_map.2 ⟨_, h, rfl⟩)
    refine ⟨h1, ?_, h3, fun cs hc => ?_⟩
    · have := List.contains_iff_mem.1 h2
      obtain ⟨⟨j', cs⟩, hx, e⟩ := List.mem_map.1 this
      exact ⟨cs, by simp only at e; rw [← e]; exact hx⟩
    · have : (FL.map (·.1)).contains i = true := List.contains_iff_mem.2 (List.mem_map.2 ⟨_, hc, rfl⟩)
      rw [h4] at this
      cases this
  have W2 : ∀ x ∈ WL, ∀ y ∈ WL, x.2.1 = y.2.1 → x = y := fun x hx y hy e => nodup_map (f := fun x => x.2.1) (by rw [List.map_map] at k4; exact k4) x hx y hy e
  have W3 : ∀ x ∈ WL, ∀ y ∈ WL, x.1 = y.1 → x = y := fun x hx y hy e => nodup_map (f := fun x => x.1) (by rw [List.map_map] at k5; exact k5) x hx y hy e
  have F2 : ∀ x ∈ FL, ∀ y ∈ FL, x.1 = y.1 → x = y := fun x hx y hy e => nodup_map (f := fun x => x.1) k3 x hx y hy e
  obtain ⟨u0, hu0⟩ := puts_start ((l.take n).map (·.dst)) 0 a
  refine wp_region_any hm ?_
  have inv0 : HeadInv .any l.toArray n (Array.replicate l.toArray.size false) :=
    ⟨by simp, fun j oj _ hl => (by rw [getD_replicate_false] at hl; cases hl), fun t _ ht => getD_in (by simpa using ht) (getD_replicate_false _ _)⟩
  have hc : countU (fun j => !(Array.replicate l.toArray.size false).getD j false) n = n := by
    have h : ∀ m, countU (fun j => !(Array.replicate l.toArray.size false).getD j false) m = m := by
      intro m
      induction m with
      | zero => rfl
      | succ m ih => rw [countU, ih, getD_replicate_false]; rfl
    exact h n
  have := inv_go (P := P) (Q := Q) (a := a) ok (InvN w ty RL RW FL WL n) ?_ ?_ n _ u0 w.drew inv0 hc
    ⟨(Fr.refl _ _).drew, fun j _ h => (by rw [getD_replicate_false] at h; cases h), fun _ j _ h => (by rw [getD_replicate_false] at h; cases h), fun j _ _ h => (by rw [getD_replicate_false] at h; cases h), fun j _ _ _ _ _ _ h => (by rw [getD_replicate_false] at h; cases h)⟩
  · rw [show (l.toArray.toList.take n).map (·.dst) = (l.take n).map (·.dst) by simp, hu0, show n + (l.toArray.size - n) = l.toArray.size by have := ok.le; omega] at this
    exact this
  · intro i o hin ho d u w' hdi hclosed hwait hI
    have hol : (l.take n)[i]? = some o := by rw [List.getElem?_take, if_pos hin]; simpa using ho
    have hob := hh.at_ i o hol
    rw [Nat.zero_add] at hob
    have hdst : (l.toArray.toList.take n).map (·.dst) = (l.take n).map (·.dst) := by simp
    rw [hdst]
    have hfacts : ∀ j, Region.waitsFor .any l.toArray i j = true → factV RL j (u j) := fun j hj => hI.facts j (hwait j hj).2 (hwait j hj).1
    have upd : ∀ v j, j ≠ i → updV u i v j = u j := fun v j hj => by simp [updV, hj]
    have updi : ∀ v, updV u i v i = v := fun v => by simp [updV]
    have setne : ∀ j, j ≠ i → setB d i j = d j := fun j hj => by simp [setB, hj]
    have facts' : ∀ v, factV RL i v → ∀ j, j < n → setB d i j = true → factV RL j (updV u i v j) := by
      intro v hv j hj hd
      by_cases e : j = i
      · subst e; rw [updi]; exact hv
      · rw [upd v j e]; exact hI.facts j hj (by rw [← setne j e]; exact hd)
    have mem' : ∀ v w'', (∀ x ∈ WL, x.1 ≠ i) → factOf RW i v w'' → Fr Nothing w' w'' → (∀ x ∈ WL, setB d i x.1 = false) → ∀ j, j < n → setB d i j = true → factOf RW j (updV u i v j) w'' := by
      intro v w'' hnW hv hf hno j hj hd
      by_cases e : j = i
      · subst e; rw [updi]; exact hv
      · rw [upd v j e]
        exact hst.at_ j (u j) w' w'' hI.fr hf (hI.mem (fun x hx => by rw [← setne x.1 (hnW x hx)]; exact hno x hx) j hj (by rw [← setne j e]; exact hd))
    unfold obN at hob
    split at hob
    · rename_i _ i' j cs' hfind
      have hmem := List.mem_of_find?_eq_some hfind
      have hi' : i' = i := by simpa using List.find?_some hfind
      subst hi'
      obtain ⟨_, ⟨cs, hcs⟩, hwj, hnF⟩ := W1 _ _ _ hmem
      obtain ⟨g, hug, hgl, hgb⟩ := hI.news j cs hcs (hwait j hwj).1
      have hc0 : contN WL cs j d = cs := contN_none WL cs (fun x hx e => by
        have := W2 x hx _ hmem e
        subst this
        exact hdi)
      rw [hc0] at hgb
      refine wpW_mono ?_ (hob u w' g hI.fr hfacts hug ⟨cs, hcs, hgb⟩)
      rintro a' w'' ⟨v, rfl, hv, hb, hf⟩
      refine ⟨v, rfl, ⟨hI.fr.then_ hf (fun k hk e => by have e' : k = g := e; omega), facts' v hv, fun hno => (by have := hno _ hmem; simp [setB] at this), fun j2 cs2 hj2 hd2 => ?_, fun j2 cs2 j3 cs3 hj2 hj3 hne hd2 hd3 => ?_⟩⟩
      · have hne : j2 ≠ i' := fun e => hnF cs2 (by rw [← e]; exact hj2)
        rw [upd v j2 hne]
        rw [setne j2 hne] at hd2
        by_cases e : j2 = j
        · subst e
          have := F2 _ hj2 _ hcs rfl
          simp only [Prod.mk.injEq] at this
          obtain ⟨_, rfl⟩ := this
          refine ⟨g, hug, hgl, ?_⟩
          rw [contN_hit (i := i') (c := cs') (by simp [setB]) WL _ hmem (fun x hx e => W2 x hx _ hmem e)]
          exact hb
        · obtain ⟨g2, hu2, hl2, hb2⟩ := hI.news j2 cs2 hj2 hd2
          refine ⟨g2, hu2, hl2, ?_⟩
          rw [contN_other WL cs2 (fun x hx ex ei => by
            have := W3 x hx _ hmem ei
            subst this
            exact e ex.symm)]
          refine hb2.fr hf (fun eg => ?_)
          have eg' : g2 = g := eg
          subst eg'
          exact hI.apart j2 cs2 j cs hj2 hcs e hd2 (hwait j hwj).1 (hu2.trans hug.symm)
      · have hne2 : j2 ≠ i' := fun e => hnF cs2 (by rw [← e]; exact hj2)
        have hne3 : j3 ≠ i' := fun e => hnF cs3 (by rw [← e]; exact hj3)
        rw [upd v j2 hne2, upd v j3 hne3]
        exact hI.apart j2 cs2 j3 cs3 hj2 hj3 hne (by rw [← setne j2 hne2]; exact hd2) (by rw [← setne j3 hne3]; exact hd3)
    · rename_i hnone
      have hnW : ∀ x ∈ WL, x.1 ≠ i := fun x hx e => by
        have := List.find?_eq_none.1 hnone x hx
        simp [e] at this
      split at hob
      · rename_i _ i' cs hfind
        have hmem := List.mem_of_find?_eq_some hfind
        have hi' : i' = i := by simpa using List.find?_some hfind
        subst hi'
        refine wpW_mono ?_ (hob u w' hI.fr hfacts)
        rintro a' w'' ⟨v, rfl, hv, hvw, rfl, hN⟩
        refine ⟨_, rfl, ⟨hI.fr.trans hN.fr, facts' _ hv, mem' _ _ hnW hvw hN.fr, fun j2 cs2 hj2 hd2 => ?_, fun j2 cs2 j3 cs3 hj2 hj3 hne hd2 hd3 => ?_⟩⟩
        · rw [contN_other WL cs2 (fun x hx _ => hnW x hx)]
          by_cases e : j2 = i'
          · subst e
            have := F2 _ hj2 _ hmem rfl
            simp only [Prod.mk.injEq] at this
            obtain ⟨_, rfl⟩ := this
            refine ⟨w'.heap.size, updi _, hI.fr.size, ?_⟩
            rw [contN_none WL _ (fun x hx ex => by
              cases hdx : d x.1
              · rfl
              · have hw := (W1 x.1 x.2.1 x.2.2 hx).2.2.1
                rw [ex] at hw
                rw [hclosed _ _ hdx hw] at hdi
                cases hdi)]
            exact hN.blk
          · rw [upd _ j2 e]
            obtain ⟨g2, hu2, hl2, hb2⟩ := hI.news j2 cs2 hj2 (by rw [← setne j2 e]; exact hd2)
            exact ⟨g2, hu2, hl2, hb2.fr hN.fr (fun x => x)⟩
        · by_cases e2 : j2 = i'
          · subst e2
            rw [updi, upd _ j3 (fun e => hne e.symm)]
            obtain ⟨g3, hu3, hl3, hb3⟩ := hI.news j3 cs3 hj3 (by rw [← setne j3 (fun e => hne e.symm)]; exact hd3)
            rw [hu3]
            intro e
            have := hb3.lt
            simp only [Value.pointer.injEq, Option.some.injEq, Addr.mk.injEq, and_true] at e
            omega
          · by_cases e3 : j3 = i'
            · subst e3
              rw [updi, upd _ j2 e2]
              obtain ⟨g2, hu2, hl2, hb2⟩ := hI.news j2 cs2 hj2 (by rw [← setne j2 e2]; exact hd2)
              rw [hu2]
              intro e
              have := hb2.lt
              simp only [Value.pointer.injEq, Option.some.injEq, Addr.mk.injEq, and_true] at e
              omega
            · rw [upd _ j2 e2, upd _ j3 e3]
              exact hI.apart j2 cs2 j3 cs3 hj2 hj3 hne (by rw [← setne j2 e2]; exact hd2) (by rw [← setne j3 e3]; exact hd3)
      · rename_i hnoneF
        have hnF : ∀ x ∈ FL, x.1 ≠ i := fun x hx e => by
          have := List.find?_eq_none.1 hnoneF x hx
          simp [e] at this
        refine wpW_mono ?_ (hob u w' hI.fr hfacts (fun hE j hj => hI.mem (fun x hx => by
          cases hdx : d x.1
          · rfl
          · rw [hclosed _ _ hdx (List.all_eq_true.1 hE x hx)] at hdi
            cases hdi) j (hwait j hj).2 (hwait j hj).1))
        rintro a' w'' ⟨v, rfl, hv, hvw, hf⟩
        refine ⟨v, rfl, ⟨hI.fr.trans hf, facts' v hv, mem' _ _ hnW hvw hf, fun j2 cs2 hj2 hd2 => ?_, fun j2 cs2 j3 cs3 hj2 hj3 hne hd2 hd3 => ?_⟩⟩
        · have e : j2 ≠ i := hnF _ hj2
          rw [contN_other WL cs2 (fun x hx _ => hnW x hx), upd v j2 e]
          obtain ⟨g2, hu2, hl2, hb2⟩ := hI.news j2 cs2 hj2 (by rw [← setne j2 e]; exact hd2)
          exact ⟨g2, hu2, hl2, hb2.fr hf (fun x => x)⟩
        · have e2 : j2 ≠ i := hnF _ hj2
          have e3 : j3 ≠ i := hnF _ hj3
          rw [upd v j2 e2, upd v j3 e3]
          exact hI.apart j2 cs2 j3 cs3 hj2 hj3 hne (by rw [← setne j2 e2]; exact hd2) (by rw [← setne j3 e3]; exact hd3)
  · intro d u w' hall hI
    have := ht u w' hI.fr (fun j hj => hI.facts j hj (hall j hj)) (fun j cs hj => by
      obtain ⟨g, h1, h2, h3⟩ := hI.news j cs hj (hall j (F1 j cs hj))
      rw [contN_congr WL cs (d' := fun _ => true) (fun x hx => hall x.1 (W1 x.1 x.2.1 x.2.2 hx).1)] at h3
      exact ⟨g, h1, h2, h3⟩) (fun j cs j' cs' hj hj' hne => hI.apart j cs j' cs' hj hj' hne (hall j (F1 j cs hj)) (hall j' (F1 j' cs' hj')))
    simpa using this
end Go.Proofs.YtkaghbpdnmigmaaDoor
