/- Steps of the proof of LawPipesLoseNothing: contracts of the functions that the law reaches, for every world that holds what each of them asks. -/
import Derived.Test.YtmpokappjogehaaGreatDoorQAB
import Derived.StillTail
import Derived.OwnWalkIn
import Derived.OrdersIn
import Derived.TacticsInMore
import Derived.RangeFuncCalls
set_option linter.unusedVariables false
set_option linter.unusedSimpArgs false
/- A region that draws its order, whose first operations only make memory (or turn blocks of a set T) and whose last ones come in one forced order: each operation is walked once, whatever the order. Plain lemmas over any program. -/
namespace Go.Proofs.YtmpokappjogehaaGreatDoor
open Go.RowKit

def puts : List (Option Tmp) → Nat → (Nat → Value) → Act → Act
  | [], _, _, a => a
  | d :: r, k, u, a => puts r (k + 1) u (a.put d (u k))

def updV (u : Nat → Value) (i : Nat) (v : Value) : Nat → Value := fun j => if j = i then v else u j

theorem put_twice (a : Act) (x : Option Tmp) (v v' : Value) : (a.put x v).put x v' = a.put x v' := by
  cases x with
  | none => rfl
  | some d => simp [Act.put]
theorem put_same (a : Act) (x : Option Tmp) : ∃ v, a.put x v = a := by
  cases x with
  | none => exact ⟨undef, rfl⟩
  | some d =>
    refine ⟨a.tmps.getD d undef, ?_⟩
    have : a.tmps.setIfInBounds d (a.tmps.getD d undef) = a.tmps := by
      apply Array.ext
      · simp
      · intro i h1 h2
        rw [Array.getElem_setIfInBounds (by simpa using h2)]
        split
        · rename_i e
          subst e
          simp [h2]
        · rfl
    simp only [Act.put, this]

theorem puts_congr : ∀ (ds : List (Option Tmp)) (k : Nat) (u u' : Nat → Value) (a : Act), (∀ j, k ≤ j → u j = u' j) → puts ds k u a = puts ds k u' a
  | [], _, _, _, _, _ => rfl
  | d :: r, k, u, u', a, h => by
    rw [puts, puts, h k (Nat.le_refl _)]
    exact puts_congr r (k + 1) u u' _ (fun j hj => h j (by omega))

theorem puts_later : ∀ (ds : List (Option Tmp)) (k : Nat) (u : Nat → Value) (a : Act) (x : Option Tmp) (v : Value), x ∉ ds → (puts ds k u a).put x v = puts ds k u (a.put x v)
  | [], _, _, _, _, _, _ => rfl
  | d :: r, k, u, a, x, v, h => by
    rw [puts, puts, puts_later r (k + 1) u _ x v (fun hm => h (by simp [hm]))]
    congr 1
    exact Act.put_comm a (u k) v (fun e hd hx => h (by rw [hd, hx]; simp))

theorem puts_put : ∀ (ds : List (Option Tmp)) (k i : Nat) (u : Nat → Value) (a : Act) (x : Option Tmp) (v : Value), ds.Nodup → ds[i]? = some x → (puts ds k u a).put x v = puts ds k (updV u (k + i) v) a
  | [], _, _, _, _, _, _, _, h => by simp at h
  | d :: r, k, 0, u, a, x, v, hn, h => by
    have hx : d = x := by simpa using h
    subst hx
    rw [puts, puts, puts_later r (k + 1) u _ d v (List.nodup_cons.1 hn).1, put_twice]
    rw [show updV u (k + 0) v k = v by simp [updV]]
    exact puts_congr r (k + 1) _ _ _ (fun j hj => by simp only [updV]; rw [if_neg (by omega)])
  | d :: r, k, i + 1, u, a, x, v, hn, h => by
    rw [puts, puts, puts_put r (k + 1) i u _ x v (List.nodup_cons.1 hn).2 (by simpa using h)]
    rw [show updV u (k + (i + 1)) v k = u k by simp only [updV]; rw [if_neg (by omega)], show k + 1 + i = k + (i + 1) by omega]

theorem puts_start : ∀ (ds : List (Option Tmp)) (k : Nat) (a : Act), ∃ u, puts ds k u a = a
  | [], _, _ => ⟨fun _ => undef, rfl⟩
  | d :: r, k, a => by
    obtain ⟨v, hv⟩ := put_same a d
    obtain ⟨u, hu⟩ := puts_start r (k + 1) a
    refine ⟨updV u k v, ?_⟩
    rw [puts, show updV u k v k = v by simp [updV], hv]
    rw [puts_congr r (k + 1) (updV u k v) u a (fun j hj => by simp only [updV]; rw [if_neg (by omega)])]
    exact hu

def countU (p : Nat → Bool) : Nat → Nat
  | 0 => 0
  | n + 1 => countU p n + (if p n = true then 1 else 0)
theorem countU_congr (p q : Nat → Bool) : ∀ n, (∀ j, j < n → p j = q j) → countU p n = countU q n
  | 0, _ => rfl
  | n + 1, h => by rw [countU, countU, countU_congr p q n (fun j hj => h j (by omega)), h n (by omega)]
theorem countU_less (p q : Nat → Bool) (i : Nat) (hp : p i = true) (hq : q i = false) (h : ∀ j, j ≠ i → q j = p j) : ∀ n, i < n → countU q n + 1 = countU p n
  | 0, hi => by omega
  | n + 1, hi => by
    rw [countU, countU]
    by_cases e : i = n
    · subst e
      rw [hp, hq, countU_congr q p i (fun j hj => h j (by omega))]
      simp
    · have := countU_less p q i hp hq h n (by omega)
      rw [h n (fun e' => e e'.symm)]
      omega
theorem countU_pos (p : Nat → Bool) : ∀ n, countU p n ≠ 0 → ∃ j, j < n ∧ p j = true ∧ ∀ k, k < j → p k = false
  | 0, h => absurd rfl h
  | n + 1, h => by
    by_cases h0 : countU p n = 0
    · have hall : ∀ m, countU p m = 0 → ∀ k, k < m → p k = false := by
        intro m
        induction m with
        | zero => intro _ k hk; omega
        | succ m ih =>
          intro hm k hk
          rw [countU] at hm
          rcases Nat.lt_or_ge k m with h1 | h1
          · exact ih (by omega) k h1
          · have : k = m := by omega
            subst this
            cases hp : p k
            · rfl
            · rw [hp] at hm; simp at hm
      refine ⟨n, by omega, ?_, hall n h0⟩
      cases hp : p n
      · rw [countU, h0, hp] at h; simp at h
      · rfl
    · obtain ⟨j, hj, h1, h2⟩ := countU_pos p n h0
      exact ⟨j, by omega, h1, h2⟩
theorem countU_zero (p : Nat → Bool) : ∀ n, countU p n = 0 → ∀ j, j < n → p j = false
  | 0, _, _, hj => by omega
  | n + 1, h, j, hj => by
    rw [countU] at h
    rcases Nat.lt_or_ge j n with h1 | h1
    · exact countU_zero p n (by omega) j h1
    · have : j = n := by omega
      subst this
      cases hp : p j
      · rfl
      · rw [hp] at h; simp at h

/-- Which operation waits for which, among the first n. -/
def growB (ops : Array Oper) (n : Nat) : Bool :=
  decide (n ≤ ops.size) &&
  ((List.range n).all fun i => match ops[i]? with | some o => o.dst.isSome && o.after.all (fun e => !Region.binds .any e || decide (e.on < i)) | none => false) &&
  decide ((ops.toList.take n).map (·.dst)).Nodup &&
  (decide (n = ops.size) || (Region.sinkB .any ops n && Region.chainB .any ops n)) &&
  Region.seqB .any ops (ops.size - n) n (Array.replicate n true ++ Array.replicate (ops.size - n) false)

structure GrowOk (ops : Array Oper) (n : Nat) : Prop where
  le : n ≤ ops.size
  each : ∀ i o, i < n → ops[i]? = some o → o.dst.isSome = true ∧ ∀ e ∈ o.after, Region.binds .any e = true → e.on < i
  nodup : ((ops.toList.take n).map (·.dst)).Nodup
  tail : n = ops.size ∨ (Region.sinkB .any ops n = true ∧ Region.chainB .any ops n = true)
  seq : Region.seqB .any ops (ops.size - n) n (Array.replicate n true ++ Array.replicate (ops.size - n) false) = true
theorem GrowOk.of {ops : Array Oper} {n : Nat} (h : growB ops n = true) : GrowOk ops n := by
  simp only [growB, Bool.and_eq_true, Bool.or_eq_true, decide_eq_true_eq] at h
  obtain ⟨⟨⟨⟨h1, h2⟩, h3⟩, h4⟩, h5⟩ := h
  refine ⟨h1, fun i o hi ho => ?_, h3, h4, h5⟩
  have h := List.all_eq_true.1 h2 i (List.mem_range.2 hi)
  rw [ho] at h
  simp only [Bool.and_eq_true] at h
  refine ⟨h.1, fun e he hb => ?_⟩
  have := (Array.all_eq_true_iff_forall_mem.1 h.2) e he
  simpa [hb] using this

/-- One operation more: its value, and what is known of it. -/
def OneUp (a : Act) (d : Option Tmp) (T : Nat → Prop) (w : World) (R : Value → World → Prop) (a' : Act) (w'' : World) : Prop := ∃ v, a' = a.put d v ∧ Fr T w w'' ∧ R v w''

/-- An operation that is wanted is walked; one that is not yields no value. -/
def wpW (P : Program) (ops : Array Oper) (Q : Exit → Act → World → Prop) (o : Oper) (a : Act) (w : World) (K : Act → World → Prop) : Prop :=
  (Region.wanted o (yielded ops a.tmps) = true ∧ o.wp P a w K Q) ∨ (Region.wanted o (yielded ops a.tmps) = false ∧ K (a.put o.dst undef) w)

def headAll (P : Program) (ops : Array Oper) (Q : Exit → Act → World → Prop) (C : World → Prop) (T : Nat → Nat → Prop) (E : Nat → World → Prop) (F : (Nat → Value) → Act) (R : Nat → Value → World → Prop) : Nat → List Oper → Prop
  | _, [] => True
  | i, o :: r => (∀ u w', C w' → E i w' → (∀ j, Region.waitsFor .any ops i j = true → R j (u j) w') → wpW P ops Q o (F u) w' (OneUp (F u) o.dst (T i) w' (R i))) ∧ headAll P ops Q C T E F R (i + 1) r

theorem headAll.at_ {P : Program} {ops : Array Oper} {Q : Exit → Act → World → Prop} {C : World → Prop} {T : Nat → Nat → Prop} {E : Nat → World → Prop} {F : (Nat → Value) → Act} {R : Nat → Value → World → Prop} : ∀ {l : List Oper} {k : Nat}, headAll P ops Q C T E F R k l →
    ∀ i o, l[i]? = some o → ∀ u w', C w' → E (k + i) w' → (∀ j, Region.waitsFor .any ops (k + i) j = true → R j (u j) w') → wpW P ops Q o (F u) w' (OneUp (F u) o.dst (T (k + i)) w' (R (k + i)))
  | [], _, _, _, _, h => by simp at h
  | o' :: r, k, h, 0, o, ho => by
    have : o' = o := by simpa using ho
    subst this
    exact h.1
  | o' :: r, k, h, i + 1, o, ho => by
    have := headAll.at_ h.2 i o (by simpa using ho)
    rwa [show k + 1 + i = k + (i + 1) by omega] at this

theorem wpOp_of_wpW {P : Program} {ops : Array Oper} {Q : Exit → Act → World → Prop} {i : Nat} {o : Oper} {K : Act → World → Prop} {a : Act} {w : World} (ho : ops[i]? = some o) (h : wpW P ops Q o a w K) : wpOp P ops Q i K a w := by
  unfold wpOp
  rw [ho]
  rcases h with ⟨hw, h⟩ | ⟨hw, h⟩
  · simp only [hw, if_true]
    exact .inl h
  · simp only [hw, Bool.false_eq_true, if_false]
    exact h
theorem wpW_mono {P : Program} {ops : Array Oper} {Q : Exit → Act → World → Prop} {o : Oper} {K K' : Act → World → Prop} {a : Act} {w : World} (hK : ∀ a w, K a w → K' a w) (h : wpW P ops Q o a w K) : wpW P ops Q o a w K' := by
  rcases h with ⟨hw, h⟩ | ⟨hw, h⟩
  · exact .inl ⟨hw, Oper.wp_mono hK h⟩
  · exact .inr ⟨hw, hK _ _ h⟩

structure Stays (C : World → Prop) (T : Nat → Nat → Prop) (E : Nat → World → Prop) (R : Nat → Value → World → Prop) : Prop where
  c : ∀ i w' w'', C w' → Fr (T i) w' w'' → C w''
  e : ∀ i j w' w'', i ≠ j → C w' → Fr (T i) w' w'' → E j w' → E j w''
  r : ∀ i j v w' w'', i ≠ j → C w' → Fr (T i) w' w'' → R j v w' → R j v w''

theorem grow_go {P : Program} {ops : Array Oper} {Q : Exit → Act → World → Prop} {C : World → Prop} {T : Nat → Nat → Prop} {E : Nat → World → Prop} {a : Act} {R : Nat → Value → World → Prop} {n : Nat} (ok : GrowOk ops n)
    (hst : Stays C T E R)
    (hh : headAll P ops Q C T E (fun u => puts ((ops.toList.take n).map (·.dst)) 0 u a) R 0 (ops.toList.take n))
    (ht : ∀ u w', C w' → (∀ j, j < n → R j (u j) w') → wpList P ops Q (ops.toList.drop n) (puts ((ops.toList.take n).map (·.dst)) 0 u a) w') :
    ∀ (f : Nat) (listed : Array Bool) (u : Nat → Value) (w' : World), HeadInv .any ops n listed → countU (fun j => !listed.getD j false) n = f → C w' → (∀ j, j < n → listed.getD j false = false → E j w') →
      (∀ j, j < n → listed.getD j false = true → R j (u j) w') → wpAny P .any ops Q (f + (ops.size - n)) listed (puts ((ops.toList.take n).map (·.dst)) 0 u a) w' := by
  intro f
  induction f with
  | zero =>
    intro listed u w' inv hc hf hE hR
    have hall : ∀ j, j < n → listed.getD j false = true := fun j hj => by simpa using countU_zero _ n hc j hj
    have he : listed = Array.replicate n true ++ Array.replicate (ops.size - n) false := by
      apply Array.ext
      · rw [inv.size]; have := ok.le; simp; omega
      · intro i h1 h2
        rcases Nat.lt_or_ge i n with hi | hi
        · have := hall i hi
          rw [Array.getElem_append_left (by simpa using hi)]
          simpa [h1] using this
        · have := inv.tail i hi (by rw [← inv.size]; exact h1)
          rw [Array.getElem_append_right (by simpa using hi)]
          simpa [h1] using this
    subst he
    have hdl : (ops.toList.drop n).length = ops.size - n := by simp
    have := wpAny_of_seq (P := P) (md := .any) (ops := ops) (Q' := Q) (ops.toList.drop n) n _ (puts ((ops.toList.take n).map (·.dst)) 0 u a) w' (fun j => by simp [List.getElem?_drop]) (by rw [hdl]; exact ok.seq) (ht u w' hf (fun j hj => hR j hj (hall j hj)))
    rw [hdl] at this
    rwa [Nat.zero_add]
  | succ f ih =>
    intro listed u w' inv hc hf hE hR
    obtain ⟨j, hj, hun, hless⟩ := countU_pos (fun j => !listed.getD j false) n (by omega)
    have hjs : j < ops.size := by have := ok.le; omega
    have hunj : listed.getD j true = false := getD_in (by rw [inv.size]; exact hjs) (by simpa using hun)
    have hjr : j ∈ Region.ready .any ops listed := by
      refine mem_ready.2 ⟨hunj, ops[j], Array.getElem?_eq_getElem hjs, fun e he hb => ?_⟩
      have := (ok.each j _ hj (Array.getElem?_eq_getElem hjs)).2 e he hb
      simpa using hless e.on this
    rw [show f + 1 + (ops.size - n) = (f + (ops.size - n)) + 1 by omega]
    refine ⟨fun h0 => (by rw [h0] at hjr; cases hjr), fun i hi => ?_⟩
    obtain ⟨hiu, o, ho, hpre⟩ := mem_ready.1 hi
    have his : i < ops.size := (Array.getElem?_eq_some_iff.1 ho).1
    have hin : i < n := by
      rcases ok.tail with h | ⟨hs, hch⟩
      · omega
      · rcases Nat.lt_or_ge i n with h | h
        · exact h
        · exact absurd hi (tail_waits hs hch (by omega) inv (n - j) j rfl hj hunj i h)
    have hiF : listed.getD i false = false := getD_both hiu
    have hol : (ops.toList.take n)[i]? = some o := by rw [List.getElem?_take, if_pos hin]; simpa using ho
    have hw := hh.at_ i o hol u w' hf (by rw [Nat.zero_add]; exact hE i hin hiF) (fun k hk => by
      obtain ⟨o', ho', e, he, hb, hon⟩ := Region.waitsFor_spec hk
      rw [Nat.zero_add] at ho'
      have : o' = o := Option.some.inj (ho'.symm.trans ho)
      subst this
      subst hon
      have hlt := (ok.each i _ hin ho).2 e he hb
      exact hR e.on (by omega) (hpre e he hb))
    rw [Nat.zero_add] at hw
    refine wpOp_of_wpW ho (wpW_mono (fun a' w'' hK => ?_) hw)
    obtain ⟨v, rfl, hf', hRi⟩ := hK
    rw [puts_put _ 0 i u a o.dst v ok.nodup (by rw [List.getElem?_map, hol]; rfl), Nat.zero_add]
    refine ih (listed.setIfInBounds i true) (updV u i v) w'' (inv.set hi hin) ?_ (hst.c i w' w'' hf hf') (fun k hk hl => ?_) (fun k hk hl => ?_)
    · have := countU_less (fun j => !listed.getD j false) (fun j => !(listed.setIfInBounds i true).getD j false) i (by simp only [hiF]; rfl) (by
        have : (listed.setIfInBounds i true).getD i false = true := by
          have hi' : i < listed.size := by rw [inv.size]; exact his
          simp [hi']
        simp only [this]; rfl) (fun j hj => by simp only [getD_set_ne false (Ne.symm hj)]) n hin
      omega
    · have e : i ≠ k := by
        rintro rfl
        have hi' : i < listed.size := by rw [inv.size]; exact his
        simp [hi'] at hl
      rw [getD_set_ne false e] at hl
      exact hst.e i k w' w'' e hf hf' (hE k hk hl)
    · by_cases e : k = i
      · subst e
        simp only [updV, if_true]
        exact hRi
      · simp only [updV]
        rw [if_neg e]
        rw [getD_set_ne false (fun h => e h.symm)] at hl
        exact hst.r i k (u k) w' w'' (fun h => e h.symm) hf hf' (hR k hk hl)

/-- The region's rule: n operations in whatever order, then the others in theirs. C: what holds of every world on the way; T i: the blocks that operation i may turn; E i: what holds till operation i; R i: what is known of its value from then on. -/
theorem wp_region_all {P : Program} {id : Nat} {Q : Exit → Act → World → Prop} {a : Act} {w : World} {l : List Oper} (n : Nat) (C : World → Prop) (T : Nat → Nat → Prop) (E : Nat → World → Prop) (R : Nat → Value → World → Prop) (hm : P.follows .mixedOrders = true) (hB : growB l.toArray n = true)
    (hst : Stays C T E R) (hC : C w.drew) (hE : ∀ j, j < n → E j w.drew)
    (hh : headAll P l.toArray Q C T E (fun u => puts ((l.take n).map (·.dst)) 0 u a) R 0 (l.take n))
    (ht : ∀ u w', C w' → (∀ j, j < n → R j (u j) w') → wpList P l.toArray Q (l.drop n) (puts ((l.take n).map (·.dst)) 0 u a) w') : (Code.region id l.toArray true).wp P Q a w := by
  have ok := GrowOk.of hB
  obtain ⟨u0, hu0⟩ := puts_start ((l.take n).map (·.dst)) 0 a
  refine wp_region_any hm ?_
  have inv0 : HeadInv .any l.toArray n (Array.replicate l.toArray.size false) :=
    ⟨by simp, fun j oj _ hl => (by rw [getD_replicate_false] at hl; cases hl), fun t _ ht => getD_in (by simpa using ht) (getD_replicate_false _ _)⟩
  have hc : countU (fun j => !(Array.replicate l.toArray.size false).getD j false) n = n := by
    have h : ∀ m, countU (fun j => !(Array.replicate l.toArray.size false).getD j false) m = m := by
      intro m
      induction m with
      | zero => rfl
      | succ m ih => rw [countU, ih, getD_replicate_false]; rfl
    exact h n
  have := grow_go (P := P) (Q := Q) (a := a) ok hst (by simpa using hh) (by simpa using ht) n _ u0 w.drew inv0 hc hC (fun j hj _ => hE j hj) (fun j hj hl => by rw [getD_replicate_false] at hl; cases hl)
  rw [show (l.toArray.toList.take n).map (·.dst) = (l.take n).map (·.dst) by simp, hu0, show n + (l.toArray.size - n) = l.toArray.size by have := ok.le; omega] at this
  exact this

/-! ### By a list of facts, one for each operation; the operations only make memory -/
def factOf (RL : List (Value → World → Prop)) (j : Nat) : Value → World → Prop := RL.getD j (fun _ _ => True)
def Is (x : Value) : Value → World → Prop := fun v _ => v = x
def StableL (T : Nat → Prop) (w : World) : List (Value → World → Prop) → Prop
  | [] => True
  | p :: r => (∀ v w' w'', Fr T w w' → Fr T w' w'' → p v w' → p v w'') ∧ StableL T w r
theorem StableL.at_ {T : Nat → Prop} {w : World} : ∀ {RL : List (Value → World → Prop)}, StableL T w RL → ∀ j v w' w'', Fr T w w' → Fr T w' w'' → factOf RL j v w' → factOf RL j v w''
  | [], _, _, _, _, _, _, _, _ => trivial
  | _ :: _, h, 0, v, w', w'', h1, h2, h3 => h.1 v w' w'' h1 h2 h3
  | _ :: _, h, j + 1, v, w', w'', h1, h2, h3 => StableL.at_ h.2 j v w' w'' h1 h2 h3
theorem Is.stable {T : Nat → Prop} {w : World} (x : Value) : ∀ v w' w'', Fr T w w' → Fr T w' w'' → Is x v w' → Is x v w'' := fun _ _ _ _ _ h => h

def headOk (P : Program) (ops : Array Oper) (Q : Exit → Act → World → Prop) (T : Nat → Prop) (w : World) (F : (Nat → Value) → Act) (R : Nat → Value → World → Prop) : Nat → List Oper → Prop
  | _, [] => True
  | i, o :: r => (∀ u w', Fr T w w' → (∀ j, Region.waitsFor .any ops i j = true → R j (u j) w') → o.wp P (F u) w' (OneUp (F u) o.dst T w' (R i)) Q) ∧ headOk P ops Q T w F R (i + 1) r
theorem headOk.all {P : Program} {ops : Array Oper} {Q : Exit → Act → World → Prop} {T : Nat → Prop} {w : World} {F : (Nat → Value) → Act} {R : Nat → Value → World → Prop} : ∀ {l : List Oper} {k : Nat}, (l.all fun o => o.guard.isNone) = true → headOk P ops Q T w F R k l → headAll P ops Q (Fr T w) (fun _ => T) (fun _ _ => True) F R k l
  | [], _, _, _ => trivial
  | o :: r, k, hg, h => by
    simp only [List.all_cons, Bool.and_eq_true, Option.isNone_iff_eq_none] at hg
    exact ⟨fun u w' hw _ hR => .inl ⟨by simp [Region.wanted, hg.1], h.1 u w' hw hR⟩, headOk.all hg.2 h.2⟩

theorem wp_region_facts {P : Program} {id : Nat} {Q : Exit → Act → World → Prop} {a : Act} {w : World} {l : List Oper} (n : Nat) (T : Nat → Prop) (RL : List (Value → World → Prop)) (hm : P.follows .mixedOrders = true) (hB : (growB l.toArray n && (l.take n).all fun o => o.guard.isNone) = true)
    (hst : StableL T w RL)
    (hh : headOk P l.toArray Q T w (fun u => puts ((l.take n).map (·.dst)) 0 u a) (factOf RL) 0 (l.take n))
    (ht : ∀ u w', Fr T w w' → (∀ j, j < n → factOf RL j (u j) w') → wpList P l.toArray Q (l.drop n) (puts ((l.take n).map (·.dst)) 0 u a) w') : (Code.region id l.toArray true).wp P Q a w := by
  rw [Bool.and_eq_true] at hB
  exact wp_region_all n (Fr T w) (fun _ => T) (fun _ _ => True) (factOf RL) hm hB.1
    ⟨fun _ w' w'' h h' => h.trans h', fun _ _ _ _ _ _ _ _ => trivial, fun _ j v w' w'' _ h1 h2 h3 => hst.at_ j v w' w'' h1 h2 h3⟩ ((Fr.refl _ _).drew) (fun _ _ => trivial) (headOk.all hB.2 hh) ht
end Go.Proofs.YtmpokappjogehaaGreatDoor

/- A region that draws its order, whose operations may write one after the other: each operation is walked once, whatever the order; the memory goes through stages. Plain lemmas over any program. -/
namespace Go.Proofs.YtmpokappjogehaaGreatDoor
open Go.RowKit

/-- What holds of the memory: M0, and behind each operation that writes what stands beside it. -/
def stage : List (Nat × (World → Prop)) → (World → Prop) → (Nat → Bool) → World → Prop
  | [], M, _ => M
  | (p, M') :: r, M, d => if d p = true then stage r M' d else M
def writesB (ws : List (Nat × (World → Prop))) (i : Nat) : Bool := (ws.map (·.1)).any (fun p => p == i)
def turnedW (ws : List (Nat × (World → Prop))) (T : Nat → Prop) (i : Nat) : Nat → Prop := if writesB ws i = true then T else Nothing
def afterW : List (Nat × (World → Prop)) → Nat → World → Prop
  | [], _ => fun _ => True
  | (p, M') :: r, i => if (p == i) = true then M' else afterW r i
def lastW : List (Nat × (World → Prop)) → (World → Prop) → World → Prop
  | [], M => M
  | (_, M') :: r, _ => lastW r M'
def chainP (B : Nat → Nat → Bool) : List Nat → Bool
  | [] => true
  | p :: r => r.all (fun q => B p q && !(q == p)) && chainP B r
def beforeB (ops : Array Oper) (n : Nat) (B : Nat → Nat → Bool) : Bool :=
  (List.range n).all fun j => (List.range n).all fun i => !B i j || (Region.waitsFor .any ops j i || (List.range j).any fun k => Region.waitsFor .any ops j k && B i k)

def StableW (T : Nat → Prop) (w : World) : List (Nat × (World → Prop)) → Prop
  | [] => True
  | (_, M) :: r => (∀ w' w'', Fr T w w' → Fr Nothing w' w'' → M w' → M w'') ∧ StableW T w r

theorem stage_none : ∀ (ws : List (Nat × (World → Prop))) (M : World → Prop) (d : Nat → Bool), (∀ x ∈ ws, d x.1 = false) → stage ws M d = M
  | [], _, _, _ => rfl
  | (p, M') :: r, M, d, h => by
    have : d p = false := h (p, M') (by simp)
    simp only [stage, this, Bool.false_eq_true, if_false]
theorem stage_all : ∀ (ws : List (Nat × (World → Prop))) (M : World → Prop) (d : Nat → Bool), (∀ x ∈ ws, d x.1 = true) → stage ws M d = lastW ws M
  | [], _, _, _ => rfl
  | (p, M') :: r, M, d, h => by
    have : d p = true := h (p, M') (by simp)
    simp only [stage, this, if_true, lastW]
    exact stage_all r M' d (fun x hx => h x (by simp [hx]))
theorem stage_congr : ∀ (ws : List (Nat × (World → Prop))) (M : World → Prop) (d d' : Nat → Bool), (∀ x ∈ ws, d x.1 = d' x.1) → stage ws M d = stage ws M d'
  | [], _, _, _, _ => rfl
  | (p, M') :: r, M, d, d', h => by
    have hp : d p = d' p := h (p, M') (by simp)
    simp only [stage, hp, stage_congr r M' d d' (fun x hx => h x (by simp [hx]))]
theorem stage_stable {T : Nat → Prop} {w w' w'' : World} (h1 : Fr T w w') (h2 : Fr Nothing w' w'') : ∀ (ws : List (Nat × (World → Prop))) (M : World → Prop) (d : Nat → Bool), StableW T w ws → (∀ w' w'', Fr T w w' → Fr Nothing w' w'' → M w' → M w'') → stage ws M d w' → stage ws M d w''
  | [], M, _, _, hM, h => hM _ _ h1 h2 h
  | (p, M') :: r, M, d, hs, hM, h => by
    simp only [stage] at h ⊢
    split at h
    · rename_i hp
      rw [if_pos hp]
      exact stage_stable h1 h2 r M' d hs.2 hs.1 h
    · rename_i hp
      rw [if_neg hp]
      exact hM _ _ h1 h2 h
theorem stage_write (B : Nat → Nat → Bool) (p : Nat) (d d' : Nat → Bool) (w'' : World) (hp : d' p = true) (hq : ∀ q, q ≠ p → d' q = d q) :
    ∀ (ws : List (Nat × (World → Prop))) (M : World → Prop), chainP B (ws.map (·.1)) = true → writesB ws p = true → (∀ x ∈ ws, B x.1 p = true → d x.1 = true) → (∀ x ∈ ws, B p x.1 = true → d x.1 = false) → afterW ws p w'' → stage ws M d' w''
  | [], _, _, hw, _, _, _ => by simp [writesB] at hw
  | (q, M') :: r, M, hc, hw, h1, h0, ha => by
    simp only [List.map_cons, chainP, Bool.and_eq_true, List.all_eq_true] at hc
    by_cases e : q = p
    · subst e
      simp only [afterW, beq_self_eq_true, if_true] at ha
      simp only [stage, hp, if_true]
      rw [stage_none]
      · exact ha
      · intro x hx
        have hb := hc.1 x.1 (List.mem_map.2 ⟨x, hx, rfl⟩)
        simp only [Bool.not_eq_true', beq_eq_false_iff_ne] at hb
        rw [hq _ hb.2]
        exact h0 x (by simp [hx]) hb.1
    · have hwr : writesB r p = true := by
        simp only [writesB, List.map_cons, List.any_cons, Bool.or_eq_true, beq_iff_eq] at hw
        rcases hw with h | h
        · exact absurd h e
        · exact h
      have hin : p ∈ r.map (·.1) := by
        simp only [writesB, List.any_eq_true, beq_iff_eq] at hwr
        obtain ⟨y, hy, rfl⟩ := hwr
        exact hy
      have hb := hc.1 p hin
      have hd : d q = true := h1 (q, M') (by simp) hb.1
      have e' : (q == p) = false := by simpa using e
      simp only [afterW, e', Bool.false_eq_true, if_false] at ha
      simp only [stage, hq q e, hd, if_true]
      exact stage_write B p d d' w'' hp hq r M' hc.2 hwr (fun x hx => h1 x (by simp [hx])) (fun x hx => h0 x (by simp [hx])) ha

def OneSt (a : Act) (d : Option Tmp) (T : Nat → Prop) (w : World) (R : Value → World → Prop) (M : World → Prop) (a' : Act) (w'' : World) : Prop := ∃ v, a' = a.put d v ∧ Fr T w w'' ∧ R v w'' ∧ M w''

def headSt (P : Program) (ops : Array Oper) (Q : Exit → Act → World → Prop) (T : Nat → Prop) (w : World) (F : (Nat → Value) → Act) (R : Nat → Value → World → Prop) (ws : List (Nat × (World → Prop))) (M0 : World → Prop) (B : Nat → Nat → Bool) (n : Nat) : Nat → List Oper → Prop
  | _, [] => True
  | i, o :: r => (∀ u w' d, Fr T w w' → (∀ j, Region.waitsFor .any ops i j = true → R j (u j) w') → (∀ p, p < n → B p i = true → d p = true) → (∀ p, (p == i || B i p) = true → d p = false) → stage ws M0 d w' →
      wpW P ops Q o (F u) w' (OneSt (F u) o.dst (turnedW ws T i) w' (R i) (afterW ws i))) ∧ headSt P ops Q T w F R ws M0 B n (i + 1) r

theorem headSt.at_ {P : Program} {ops : Array Oper} {Q : Exit → Act → World → Prop} {T : Nat → Prop} {w : World} {F : (Nat → Value) → Act} {R : Nat → Value → World → Prop} {ws : List (Nat × (World → Prop))} {M0 : World → Prop} {B : Nat → Nat → Bool} {n : Nat} :
    ∀ {l : List Oper} {k : Nat}, headSt P ops Q T w F R ws M0 B n k l → ∀ i o, l[i]? = some o → ∀ u w' d, Fr T w w' → (∀ j, Region.waitsFor .any ops (k + i) j = true → R j (u j) w') → (∀ p, p < n → B p (k + i) = true → d p = true) → (∀ p, (p == k + i || B (k + i) p) = true → d p = false) → stage ws M0 d w' →
      wpW P ops Q o (F u) w' (OneSt (F u) o.dst (turnedW ws T (k + i)) w' (R (k + i)) (afterW ws (k + i)))
  | [], _, _, _, _, h => by simp at h
  | o' :: r, k, h, 0, o, ho => by
    have : o' = o := by simpa using ho
    subst this
    exact h.1
  | o' :: r, k, h, i + 1, o, ho => by
    have := headSt.at_ h.2 i o (by simpa using ho)
    rw [show k + 1 + i = k + (i + 1) by omega] at this
    exact this

theorem listed_before {ops : Array Oper} {n : Nat} {B : Nat → Nat → Bool} {listed : Array Bool} (hB : beforeB ops n B = true) (inv : HeadInv .any ops n listed) :
    ∀ j, j < n → listed.getD j false = true → ∀ i, i < n → B i j = true → listed.getD i false = true := by
  have direct : ∀ j k, listed.getD j false = true → Region.waitsFor .any ops j k = true → listed.getD k false = true := by
    intro j k hj hk
    obtain ⟨o', ho', e, he, hb, hon⟩ := Region.waitsFor_spec hk
    subst hon
    exact inv.closed j o' ho' hj e he hb
  intro j
  induction j using Nat.strongRecOn with
  | _ j ih =>
    intro hj hl i hi hb
    have h := List.all_eq_true.1 (List.all_eq_true.1 hB j (List.mem_range.2 hj)) i (List.mem_range.2 hi)
    simp only [hb, Bool.not_true, Bool.false_or, Bool.or_eq_true, List.any_eq_true, Bool.and_eq_true, List.mem_range] at h
    rcases h with h | ⟨k, hk, hw, hbk⟩
    · exact direct j i hl h
    · exact ih k hk (by omega) (direct j k hl hw) i hi hbk

theorem puts_none : ∀ (ds : List (Option Tmp)) (k i : Nat) (u : Nat → Value) (a : Act) (v : Value), ds[i]? = some none → puts ds k (updV u (k + i) v) a = puts ds k u a
  | [], _, _, _, _, _, h => by simp at h
  | d :: r, k, 0, u, a, v, h => by
    have hd : d = none := by simpa using h
    subst hd
    rw [puts, puts]
    exact puts_congr r (k + 1) _ _ _ (fun j hj => by simp only [updV]; rw [if_neg (by omega)])
  | d :: r, k, i + 1, u, a, v, h => by
    rw [puts, puts, show updV u (k + (i + 1)) v k = u k by simp only [updV]; rw [if_neg (by omega)], show k + (i + 1) = (k + 1) + i by omega]
    exact puts_none r (k + 1) i u _ v (by simpa using h)
theorem puts_put2 : ∀ (ds : List (Option Tmp)) (k i : Nat) (u : Nat → Value) (a : Act) (x : Option Tmp) (v : Value), (ds.filterMap id).Nodup → ds[i]? = some x → (puts ds k u a).put x v = puts ds k (updV u (k + i) v) a
  | ds, k, i, u, a, none, v, _, h => by rw [puts_none ds k i u a v h]; rfl
  | [], _, _, _, _, some _, _, _, h => by simp at h
  | d :: r, k, 0, u, a, some t, v, hn, h => by
    have hx : d = some t := by simpa using h
    subst hx
    have hnr : some t ∉ r := by
      intro hm
      simp only [List.filterMap_cons_some (show id (some t) = some t from rfl), List.nodup_cons] at hn
      exact hn.1 (List.mem_filterMap.2 ⟨_, hm, rfl⟩)
    rw [puts, puts, puts_later r (k + 1) u _ (some t) v hnr, put_twice]
    rw [show updV u (k + 0) v k = v by simp [updV]]
    exact puts_congr r (k + 1) _ _ _ (fun j hj => by simp only [updV]; rw [if_neg (by omega)])
  | d :: r, k, i + 1, u, a, some t, v, hn, h => by
    have hn' : (r.filterMap id).Nodup := by
      cases d with
      | none => simpa using hn
      | some t' => simp only [List.filterMap_cons_some (show id (some t') = some t' from rfl), List.nodup_cons] at hn; exact hn.2
    rw [puts, puts, show updV u (k + (i + 1)) v k = u k by simp only [updV]; rw [if_neg (by omega)], show k + (i + 1) = (k + 1) + i by omega]
    exact puts_put2 r (k + 1) i u _ (some t) v hn' (by simpa using h)

/-- As GrowOk, but an operation may yield nothing (at most one of them). -/
def growS (ops : Array Oper) (n : Nat) : Bool :=
  decide (n ≤ ops.size) &&
  ((List.range n).all fun i => match ops[i]? with | some o => o.after.all (fun e => !Region.binds .any e || decide (e.on < i)) | none => false) &&
  decide (((ops.toList.take n).map (·.dst)).filterMap id).Nodup &&
  (decide (n = ops.size) || (Region.sinkB .any ops n && Region.chainB .any ops n)) &&
  Region.seqB .any ops (ops.size - n) n (Array.replicate n true ++ Array.replicate (ops.size - n) false)
structure GrowS (ops : Array Oper) (n : Nat) : Prop where
  le : n ≤ ops.size
  each : ∀ i o, i < n → ops[i]? = some o → ∀ e ∈ o.after, Region.binds .any e = true → e.on < i
  nodup : (((ops.toList.take n).map (·.dst)).filterMap id).Nodup
  tail : n = ops.size ∨ (Region.sinkB .any ops n = true ∧ Region.chainB .any ops n = true)
  seq : Region.seqB .any ops (ops.size - n) n (Array.replicate n true ++ Array.replicate (ops.size - n) false) = true
theorem each_of {ops : Array Oper} {n : Nat} (h2 : ((List.range n).all fun i => match ops[i]? with | some o => o.after.all (fun e => !Region.binds .any e || decide (e.on < i)) | none => false) = true) :
    ∀ i o, i < n → ops[i]? = some o → ∀ e ∈ o.after, Region.binds .any e = true → e.on < i := by
  intro i o hi ho e he hb
  have h := List.all_eq_true.1 h2 i (List.mem_range.2 hi)
  rw [ho] at h
  have := (Array.all_eq_true_iff_forall_mem.1 h) e he
  simpa [hb] using this
theorem GrowS.of {ops : Array Oper} {n : Nat} (h : growS ops n = true) : GrowS ops n := by
  simp only [growS, Bool.and_eq_true, Bool.or_eq_true, decide_eq_true_eq] at h
  obtain ⟨⟨⟨⟨h1, h2⟩, h3⟩, h4⟩, h5⟩ := h
  exact ⟨h1, each_of h2, h3, h4, h5⟩

theorem st_go {P : Program} {ops : Array Oper} {Q : Exit → Act → World → Prop} {T : Nat → Prop} {w : World} {a : Act} {RL : List (Value → World → Prop)} {ws : List (Nat × (World → Prop))} {M0 : World → Prop} {B : Nat → Nat → Bool} {n : Nat} (ok : GrowS ops n) (hB : beforeB ops n B = true)
    (hch : (chainP B (ws.map (·.1)) && (ws.map (·.1)).all (fun p => decide (p < n))) = true)
    (hst : StableL T w RL) (hsw : StableW T w ws) (hs0 : ∀ w' w'', Fr T w w' → Fr Nothing w' w'' → M0 w' → M0 w'')
    (hh : headSt P ops Q T w (fun u => puts ((ops.toList.take n).map (·.dst)) 0 u a) (factOf RL) ws M0 B n 0 (ops.toList.take n))
    (ht : ∀ u w', Fr T w w' → (∀ j, j < n → factOf RL j (u j) w') → lastW ws M0 w' → wpList P ops Q (ops.toList.drop n) (puts ((ops.toList.take n).map (·.dst)) 0 u a) w') :
    ∀ (f : Nat) (listed : Array Bool) (u : Nat → Value) (w' : World), HeadInv .any ops n listed → countU (fun j => !listed.getD j false) n = f → Fr T w w' → stage ws M0 (fun j => listed.getD j false) w' →
      (∀ j, j < n → listed.getD j false = true → factOf RL j (u j) w') → wpAny P .any ops Q (f + (ops.size - n)) listed (puts ((ops.toList.take n).map (·.dst)) 0 u a) w' := by
  rw [Bool.and_eq_true] at hch
  have hlt : ∀ x ∈ ws, x.1 < n := fun x hx => by simpa using List.all_eq_true.1 hch.2 x.1 (List.mem_map.2 ⟨x, hx, rfl⟩)
  intro f
  induction f with
  | zero =>
    intro listed u w' inv hc hf hM hR
    have hall : ∀ j, j < n → listed.getD j false = true := fun j hj => by simpa using countU_zero _ n hc j hj
    have he : listed = Array.replicate n true ++ Array.replicate (ops.size - n) false := by
      apply Array.ext
      · rw [inv.size]; have := ok.le; simp; omega
      · intro i h1 h2
        rcases Nat.lt_or_ge i n with hi | hi
        · have := hall i hi
          rw [Array.getElem_append_left (by simpa using hi)]
          simpa [h1] using this
        · have := inv.tail i hi (by rw [← inv.size]; exact h1)
          rw [Array.getElem_append_right (by simpa using hi)]
          simpa [h1] using this
    rw [stage_all ws M0 _ (fun x hx => hall x.1 (hlt x hx))] at hM
    subst he
    have hdl : (ops.toList.drop n).length = ops.size - n := by simp
    have := wpAny_of_seq (P := P) (md := .any) (ops := ops) (Q' := Q) (ops.toList.drop n) n _ (puts ((ops.toList.take n).map (·.dst)) 0 u a) w' (fun j => by simp [List.getElem?_drop]) (by rw [hdl]; exact ok.seq) (ht u w' hf (fun j hj => hR j hj (hall j hj)) hM)
    rw [hdl] at this
    rwa [Nat.zero_add]
  | succ f ih =>
    intro listed u w' inv hc hf hM hR
    obtain ⟨j, hj, hun, hless⟩ := countU_pos (fun j => !listed.getD j false) n (by omega)
    have hjs : j < ops.size := by have := ok.le; omega
    have hunj : listed.getD j true = false := getD_in (by rw [inv.size]; exact hjs) (by simpa using hun)
    have hjr : j ∈ Region.ready .any ops listed := by
      refine mem_ready.2 ⟨hunj, ops[j], Array.getElem?_eq_getElem hjs, fun e he hb => ?_⟩
      have := ok.each j _ hj (Array.getElem?_eq_getElem hjs) e he hb
      simpa using hless e.on this
    rw [show f + 1 + (ops.size - n) = (f + (ops.size - n)) + 1 by omega]
    refine ⟨fun h0 => (by rw [h0] at hjr; cases hjr), fun i hi => ?_⟩
    obtain ⟨hiu, o, ho, hpre⟩ := mem_ready.1 hi
    have his : i < ops.size := (Array.getElem?_eq_some_iff.1 ho).1
    have hin : i < n := by
      rcases ok.tail with h | ⟨hs, hcn⟩
      · omega
      · rcases Nat.lt_or_ge i n with h | h
        · exact h
        · exact absurd hi (tail_waits hs hcn (by omega) inv (n - j) j rfl hj hunj i h)
    have hiF : listed.getD i false = false := getD_both hiu
    have hol : (ops.toList.take n)[i]? = some o := by rw [List.getElem?_take, if_pos hin]; simpa using ho
    have hwaits : ∀ k, Region.waitsFor .any ops i k = true → k < i ∧ listed.getD k false = true := by
      intro k hk
      obtain ⟨o', ho', e, he, hb, hon⟩ := Region.waitsFor_spec hk
      have : o' = o := Option.some.inj (ho'.symm.trans ho)
      subst this
      subst hon
      exact ⟨ok.each i _ hin ho e he hb, hpre e he hb⟩
    have hbefore : ∀ p, p < n → B p i = true → listed.getD p false = true := by
      intro p hp hb
      have h := List.all_eq_true.1 (List.all_eq_true.1 hB i (List.mem_range.2 hin)) p (List.mem_range.2 hp)
      simp only [hb, Bool.not_true, Bool.false_or, Bool.or_eq_true, List.any_eq_true, Bool.and_eq_true, List.mem_range] at h
      rcases h with h | ⟨k, hk, hw, hbk⟩
      · exact (hwaits p h).2
      · exact listed_before hB inv k (by omega) (hwaits k hw).2 p hp hbk
    have hbehind : ∀ p, (p == i || B i p) = true → listed.getD p false = false := by
      intro p hp
      simp only [Bool.or_eq_true, beq_iff_eq] at hp
      rcases hp with rfl | hb
      · exact hiF
      · rcases Nat.lt_or_ge p n with hpn | hpn
        · cases hl : listed.getD p false
          · rfl
          · have := listed_before hB inv p hpn hl i hin hb
            rw [hiF] at this
            cases this
        · rcases Nat.lt_or_ge p ops.size with h' | h'
          · exact getD_both (inv.tail p hpn h')
          · have : ¬ p < listed.size := by rw [inv.size]; omega
            simp [this]
    have hw := hh.at_ i o hol u w' (fun j => listed.getD j false) hf (fun k hk => by
      rw [Nat.zero_add] at hk
      exact hR k (by have := (hwaits k hk).1; omega) (hwaits k hk).2) (fun p hp hb => by rw [Nat.zero_add] at hb; exact hbefore p hp hb) (fun p hp => by rw [Nat.zero_add] at hp; exact hbehind p hp) hM
    rw [Nat.zero_add] at hw
    refine wpOp_of_wpW ho (wpW_mono (fun a' w'' hK => ?_) hw)
    obtain ⟨v, rfl, hf', hRi, hMi⟩ := hK
    have hfT : Fr T w' w'' := by
      unfold turnedW at hf'
      split at hf'
      · exact hf'
      · exact hf'.weak
    rw [puts_put2 _ 0 i u a o.dst v ok.nodup (by rw [List.getElem?_map, hol]; rfl), Nat.zero_add]
    have hset : (listed.setIfInBounds i true).getD i false = true := by
      have hi' : i < listed.size := by rw [inv.size]; exact his
      simp [hi']
    refine ih (listed.setIfInBounds i true) (updV u i v) w'' (inv.set hi hin) ?_ (hf.trans hfT) ?_ (fun k hk hl => ?_)
    · have := countU_less (fun j => !listed.getD j false) (fun j => !(listed.setIfInBounds i true).getD j false) i (by simp only [hiF]; rfl) (by simp only [hset]; rfl) (fun j hj => by simp only [getD_set_ne false (Ne.symm hj)]) n hin
      omega
    · cases hwr : writesB ws i
      · have hfN : Fr Nothing w' w'' := by simpa [turnedW, hwr] using hf'
        have hcg := stage_congr ws M0 (fun j => (listed.setIfInBounds i true).getD j false) (fun j => listed.getD j false) (fun x hx => by
          have : i ≠ x.1 := by
            rintro rfl
            have : writesB ws x.1 = true := by
              simp only [writesB, List.any_eq_true, beq_iff_eq]
              exact ⟨x.1, List.mem_map.2 ⟨x, hx, rfl⟩, rfl⟩
            rw [hwr] at this
            cases this
          simp only [getD_set_ne false this])
        rw [hcg]
        exact stage_stable hf hfN ws M0 _ hsw hs0 hM
      · exact stage_write B i (fun j => listed.getD j false) _ w'' hset (fun q hq => by simp only [getD_set_ne false (Ne.symm hq)]) ws M0 hch.1 hwr (fun x hx hb => hbefore x.1 (hlt x hx) hb) (fun x hx hb => hbehind x.1 (by rw [hb, Bool.or_true])) hMi
    · by_cases e : k = i
      · subst e
        simp only [updV, if_true]
        exact hRi
      · simp only [updV]
        rw [if_neg e]
        rw [getD_set_ne false (fun h => e h.symm)] at hl
        exact hst.at_ k (u k) w' w'' hf hfT (hR k hk hl)

/-- The region's rule: n operations in whatever order (RL: one fact of each one's value, stable when blocks of T turn; ws: those that write, each with what holds behind it; M0: what holds at the start; B: which surely come before which), then the others in theirs. -/
theorem wp_region_st {P : Program} {id : Nat} {Q : Exit → Act → World → Prop} {a : Act} {w : World} {l : List Oper} (n : Nat) (T : Nat → Prop) (RL : List (Value → World → Prop)) (ws : List (Nat × (World → Prop))) (M0 : World → Prop) (B : Nat → Nat → Bool) (hm : P.follows .mixedOrders = true) (hg : growS l.toArray n = true)
    (hB : beforeB l.toArray n B = true) (hch : (chainP B (ws.map (·.1)) && (ws.map (·.1)).all (fun p => decide (p < n))) = true)
    (hst : StableL T w RL) (hsw : StableW T w ws) (hs0 : ∀ w' w'', Fr T w w' → Fr Nothing w' w'' → M0 w' → M0 w'') (h0 : M0 w.drew)
    (hh : headSt P l.toArray Q T w (fun u => puts ((l.take n).map (·.dst)) 0 u a) (factOf RL) ws M0 B n 0 (l.take n))
    (ht : ∀ u w', Fr T w w' → (∀ j, j < n → factOf RL j (u j) w') → lastW ws M0 w' → wpList P l.toArray Q (l.drop n) (puts ((l.take n).map (·.dst)) 0 u a) w') : (Code.region id l.toArray true).wp P Q a w := by
  have ok := GrowS.of hg
  obtain ⟨u0, hu0⟩ := puts_start ((l.take n).map (·.dst)) 0 a
  refine wp_region_any hm ?_
  have inv0 : HeadInv .any l.toArray n (Array.replicate l.toArray.size false) :=
    ⟨by simp, fun j oj _ hl => (by rw [getD_replicate_false] at hl; cases hl), fun t _ ht => getD_in (by simpa using ht) (getD_replicate_false _ _)⟩
  have hc : countU (fun j => !(Array.replicate l.toArray.size false).getD j false) n = n := by
    have h : ∀ m, countU (fun j => !(Array.replicate l.toArray.size false).getD j false) m = m := by
      intro m
      induction m with
      | zero => rfl
      | succ m ih => rw [countU, ih, getD_replicate_false]; rfl
    exact h n
  have := st_go (P := P) (Q := Q) (a := a) ok hB hch hst hsw hs0 (by simpa using hh) (by simpa using ht) n _ u0 w.drew inv0 hc ((Fr.refl _ _).drew) (by rw [stage_none ws M0 _ (fun x _ => getD_replicate_false _ _)]; exact h0) (fun j hj hl => by rw [getD_replicate_false] at hl; cases hl)
  rw [show (l.toArray.toList.take n).map (·.dst) = (l.take n).map (·.dst) by simp, hu0, show n + (l.toArray.size - n) = l.toArray.size by have := ok.le; omega] at this
  exact this

/-! ### The same for a region that keeps the text's order -/
theorem before_lt {ops : Array Oper} {n : Nat} {B : Nat → Nat → Bool} (hB : beforeB ops n B = true) (each : ∀ i o, i < n → ops[i]? = some o → ∀ e ∈ o.after, Region.binds .any e = true → e.on < i) :
    ∀ j, j < n → ∀ i, i < n → B i j = true → i < j := by
  have direct : ∀ j k, j < n → Region.waitsFor .any ops j k = true → k < j := by
    intro j k hj hk
    obtain ⟨o', ho', e, he, hb, hon⟩ := Region.waitsFor_spec hk
    subst hon
    exact each j o' hj ho' e he hb
  intro j
  induction j using Nat.strongRecOn with
  | _ j ih =>
    intro hj i hi hb
    have h := List.all_eq_true.1 (List.all_eq_true.1 hB j (List.mem_range.2 hj)) i (List.mem_range.2 hi)
    simp only [hb, Bool.not_true, Bool.false_or, Bool.or_eq_true, List.any_eq_true, Bool.and_eq_true, List.mem_range] at h
    rcases h with h | ⟨k, hk, hw, hbk⟩
    · exact direct j i hj h
    · have := ih k hk (by omega) i hi hbk
      omega

def growQ (ops : Array Oper) (n : Nat) : Bool :=
  decide (n ≤ ops.size) &&
  ((List.range n).all fun i => match ops[i]? with | some o => o.after.all (fun e => !Region.binds .any e || decide (e.on < i)) | none => false) &&
  decide (((ops.toList.take n).map (·.dst)).filterMap id).Nodup

theorem sq_go {P : Program} {ops : Array Oper} {Q : Exit → Act → World → Prop} {T : Nat → Prop} {w : World} {a : Act} {RL : List (Value → World → Prop)} {ws : List (Nat × (World → Prop))} {M0 : World → Prop} {B : Nat → Nat → Bool} {n : Nat} (hle : n ≤ ops.size)
    (each : ∀ i o, i < n → ops[i]? = some o → ∀ e ∈ o.after, Region.binds .any e = true → e.on < i) (nodup : (((ops.toList.take n).map (·.dst)).filterMap id).Nodup) (hB : beforeB ops n B = true)
    (hch : (chainP B (ws.map (·.1)) && (ws.map (·.1)).all (fun p => decide (p < n))) = true)
    (hst : StableL T w RL) (hsw : StableW T w ws) (hs0 : ∀ w' w'', Fr T w w' → Fr Nothing w' w'' → M0 w' → M0 w'')
    (hh : headSt P ops Q T w (fun u => puts ((ops.toList.take n).map (·.dst)) 0 u a) (factOf RL) ws M0 B n 0 (ops.toList.take n))
    (ht : ∀ u w', Fr T w w' → (∀ j, j < n → factOf RL j (u j) w') → lastW ws M0 w' → wpList P ops Q (ops.toList.drop n) (puts ((ops.toList.take n).map (·.dst)) 0 u a) w') :
    ∀ (f k : Nat) (u : Nat → Value) (w' : World), k + f = n → Fr T w w' → stage ws M0 (fun j => decide (j < k)) w' → (∀ j, j < k → factOf RL j (u j) w') → wpList P ops Q (ops.toList.drop k) (puts ((ops.toList.take n).map (·.dst)) 0 u a) w' := by
  rw [Bool.and_eq_true] at hch
  have hlt : ∀ x ∈ ws, x.1 < n := fun x hx => by simpa using List.all_eq_true.1 hch.2 x.1 (List.mem_map.2 ⟨x, hx, rfl⟩)
  intro f
  induction f with
  | zero =>
    intro k u w' hk hf hM hR
    obtain rfl : k = n := by omega
    rw [stage_all ws M0 _ (fun x hx => decide_eq_true (hlt x hx))] at hM
    exact ht u w' hf hR hM
  | succ f ih =>
    intro k u w' hk hf hM hR
    have hkn : k < n := by omega
    have hks : k < ops.size := by omega
    have hol : (ops.toList.take n)[k]? = some ops[k] := by rw [List.getElem?_take, if_pos hkn]; simp
    have hdrop : ops.toList.drop k = ops[k] :: ops.toList.drop (k + 1) := by
      rw [List.drop_eq_getElem_cons (by simpa using hks)]
      simp
    have hbefore : ∀ p, p < n → B p k = true → decide (p < k) = true := fun p hp hb => decide_eq_true (before_lt hB each k hkn p hp hb)
    have hbehind : ∀ p, (p == k || B k p) = true → decide (p < k) = false := by
      intro p hp
      simp only [Bool.or_eq_true, beq_iff_eq] at hp
      rcases hp with rfl | hb
      · simp
      · rcases Nat.lt_or_ge p n with hpn | hpn
        · have := before_lt hB each p hpn k hkn hb
          exact decide_eq_false (by omega)
        · exact decide_eq_false (by omega)
    have hw := hh.at_ k ops[k] hol u w' (fun j => decide (j < k)) hf (fun j hj => by
      rw [Nat.zero_add] at hj
      obtain ⟨o', ho', e, he, hb, hon⟩ := Region.waitsFor_spec hj
      subst hon
      exact hR e.on (each k o' hkn ho' e he hb)) (fun p hp hb => by rw [Nat.zero_add] at hb; exact hbefore p hp hb) (fun p hp => by rw [Nat.zero_add] at hp; exact hbehind p hp) hM
    rw [Nat.zero_add] at hw
    rw [hdrop]
    have goal : ∀ a' w'', OneSt (puts ((ops.toList.take n).map (·.dst)) 0 u a) ops[k].dst (turnedW ws T k) w' (factOf RL k) (afterW ws k) a' w'' → wpList P ops Q (ops.toList.drop (k + 1)) a' w'' := by
      rintro a' w'' ⟨v, rfl, hf', hRi, hMi⟩
      have hfT : Fr T w' w'' := by
        unfold turnedW at hf'
        split at hf'
        · exact hf'
        · exact hf'.weak
      rw [puts_put2 _ 0 k u a ops[k].dst v nodup (by rw [List.getElem?_map, hol]; rfl), Nat.zero_add]
      have hne : ∀ q, q ≠ k → decide (q < k + 1) = decide (q < k) := fun q hq => by
        rcases Nat.lt_or_ge q k with h | h
        · rw [decide_eq_true h, decide_eq_true (by omega)]
        · rw [decide_eq_false (by omega : ¬ q < k), decide_eq_false (by omega)]
      refine ih (k + 1) (updV u k v) w'' (by omega) (hf.trans hfT) ?_ (fun j hj => ?_)
      · cases hwr : writesB ws k
        · have hfN : Fr Nothing w' w'' := by simpa [turnedW, hwr] using hf'
          rw [stage_congr ws M0 (fun j => decide (j < k + 1)) (fun j => decide (j < k)) (fun x hx => by
            refine hne x.1 ?_
            rintro e
            have : writesB ws k = true := by
              simp only [writesB, List.any_eq_true, beq_iff_eq]
              exact ⟨x.1, List.mem_map.2 ⟨x, hx, rfl⟩, e⟩
            rw [hwr] at this
            cases this)]
          exact stage_stable hf hfN ws M0 _ hsw hs0 hM
        · exact stage_write B k (fun j => decide (j < k)) _ w'' (by simp) (fun q hq => hne q hq) ws M0 hch.1 hwr (fun x hx hb => hbefore x.1 (hlt x hx) hb) (fun x _ hb => hbehind x.1 (by rw [hb, Bool.or_true])) hMi
      · by_cases e : j = k
        · subst e
          simp only [updV, if_true]
          exact hRi
        · simp only [updV]
          rw [if_neg e]
          exact hst.at_ j (u j) w' w'' hf hfT (hR j (by omega))
    rcases hw with ⟨hwt, hw⟩ | ⟨hwt, hw⟩
    · exact wpList_step fun K hK => by
        rw [if_pos hwt]
        exact Oper.wp_mono (fun a' w'' h => hK _ _ (goal a' w'' h)) hw
    · unfold wpList
      simp only [hwt, Bool.false_eq_true, if_false]
      exact goal _ _ hw

theorem wp_region_sq {P : Program} {id : Nat} {Q : Exit → Act → World → Prop} {a : Act} {w : World} {l : List Oper} (n : Nat) (T : Nat → Prop) (RL : List (Value → World → Prop)) (ws : List (Nat × (World → Prop))) (M0 : World → Prop) (B : Nat → Nat → Bool) (hg : growQ l.toArray n = true)
    (hB : beforeB l.toArray n B = true) (hch : (chainP B (ws.map (·.1)) && (ws.map (·.1)).all (fun p => decide (p < n))) = true)
    (hst : StableL T w RL) (hsw : StableW T w ws) (hs0 : ∀ w' w'', Fr T w w' → Fr Nothing w' w'' → M0 w' → M0 w'') (h0 : M0 w)
    (hh : headSt P l.toArray Q T w (fun u => puts ((l.take n).map (·.dst)) 0 u a) (factOf RL) ws M0 B n 0 (l.take n))
    (ht : ∀ u w', Fr T w w' → (∀ j, j < n → factOf RL j (u j) w') → lastW ws M0 w' → wpList P l.toArray Q (l.drop n) (puts ((l.take n).map (·.dst)) 0 u a) w') : (Code.region id l.toArray false).wp P Q a w := by
  simp only [growQ, Bool.and_eq_true, decide_eq_true_eq] at hg
  obtain ⟨u0, hu0⟩ := puts_start ((l.take n).map (·.dst)) 0 a
  refine wp_region_lit ?_
  have := sq_go (P := P) (Q := Q) (a := a) hg.1.1 (each_of hg.1.2) hg.2 hB hch hst hsw hs0 (by simpa using hh) (by simpa using ht) n 0 u0 w (by omega) (Fr.refl _ _) (by rw [stage_none ws M0 _ (fun x _ => by simp)]; exact h0) (fun j hj => by omega)
  rw [show (l.toArray.toList.take n).map (·.dst) = (l.take n).map (·.dst) by simp, hu0] at this
  simpa using this
end Go.Proofs.YtmpokappjogehaaGreatDoor

/- A region that draws its order, whose operations make blocks and store into the blocks that they made: each operation is walked once, whatever the order. Plain lemmas over any program. -/
namespace Go.Proofs.YtmpokappjogehaaGreatDoor
open Go.RowKit

def setB (d : Nat → Bool) (i : Nat) : Nat → Bool := fun j => if j = i then true else d j

/-- As GrowS, but any number of operations may yield nothing. -/
def growT (ops : Array Oper) (n : Nat) : Bool :=
  decide (n ≤ ops.size) &&
  ((List.range n).all fun i => match ops[i]? with | some o => o.after.all (fun e => !Region.binds .any e || decide (e.on < i)) | none => false) &&
  decide (((ops.toList.take n).map (·.dst)).filterMap id).Nodup &&
  (decide (n = ops.size) || (Region.sinkB .any ops n && Region.chainB .any ops n)) &&
  Region.seqB .any ops (ops.size - n) n (Array.replicate n true ++ Array.replicate (ops.size - n) false)
structure GrowT (ops : Array Oper) (n : Nat) : Prop where
  le : n ≤ ops.size
  each : ∀ i o, i < n → ops[i]? = some o → ∀ e ∈ o.after, Region.binds .any e = true → e.on < i
  nodup : (((ops.toList.take n).map (·.dst)).filterMap id).Nodup
  tail : n = ops.size ∨ (Region.sinkB .any ops n = true ∧ Region.chainB .any ops n = true)
  seq : Region.seqB .any ops (ops.size - n) n (Array.replicate n true ++ Array.replicate (ops.size - n) false) = true
theorem GrowT.of {ops : Array Oper} {n : Nat} (h : growT ops n = true) : GrowT ops n := by
  simp only [growT, Bool.and_eq_true, Bool.or_eq_true, decide_eq_true_eq] at h
  obtain ⟨⟨⟨⟨h1, h2⟩, h3⟩, h4⟩, h5⟩ := h
  exact ⟨h1, each_of h2, h3, h4, h5⟩

theorem inv_go {P : Program} {ops : Array Oper} {Q : Exit → Act → World → Prop} {a : Act} {n : Nat} (ok : GrowT ops n) (Inv : (Nat → Bool) → (Nat → Value) → World → Prop)
    (hh : ∀ i o, i < n → ops[i]? = some o → ∀ d u w', d i = false → (∀ j k, d j = true → Region.waitsFor .any ops j k = true → d k = true) → (∀ j, Region.waitsFor .any ops i j = true → d j = true ∧ j < n) → Inv d u w' →
      wpW P ops Q o (puts ((ops.toList.take n).map (·.dst)) 0 u a) w' (fun a' w'' => ∃ v, a' = (puts ((ops.toList.take n).map (·.dst)) 0 u a).put o.dst v ∧ Inv (setB d i) (updV u i v) w''))
    (ht : ∀ d u w', (∀ j, j < n → d j = true) → Inv d u w' → wpList P ops Q (ops.toList.drop n) (puts ((ops.toList.take n).map (·.dst)) 0 u a) w') :
    ∀ (f : Nat) (listed : Array Bool) (u : Nat → Value) (w' : World), HeadInv .any ops n listed → countU (fun j => !listed.getD j false) n = f → Inv (fun j => listed.getD j false) u w' →
      wpAny P .any ops Q (f + (ops.size - n)) listed (puts ((ops.toList.take n).map (·.dst)) 0 u a) w' := by
  intro f
  induction f with
  | zero =>
    intro listed u w' inv hc hI
    have hall : ∀ j, j < n → listed.getD j false = true := fun j hj => by simpa using countU_zero _ n hc j hj
    have he : listed = Array.replicate n true ++ Array.replicate (ops.size - n) false := by
      apply Array.ext
      · rw [inv.size]; have := ok.le; simp; omega
      · intro i h1 h2
        rcases Nat.lt_or_ge i n with hi | hi
        · have := hall i hi
          rw [Array.getElem_append_left (by simpa using hi)]
          simpa [h1] using this
        · have := inv.tail i hi (by rw [← inv.size]; exact h1)
          rw [Array.getElem_append_right (by simpa using hi)]
          simpa [h1] using this
    have htl := ht _ u w' hall hI
    subst he
    have hdl : (ops.toList.drop n).length = ops.size - n := by simp
    have := wpAny_of_seq (P := P) (md := .any) (ops := ops) (Q' := Q) (ops.toList.drop n) n _ (puts ((ops.toList.take n).map (·.dst)) 0 u a) w' (fun j => by simp [List.getElem?_drop]) (by rw [hdl]; exact ok.seq) htl
    rw [hdl] at this
    rwa [Nat.zero_add]
  | succ f ih =>
    intro listed u w' inv hc hI
    obtain ⟨j, hj, hun, hless⟩ := countU_pos (fun j => !listed.getD j false) n (by omega)
    have hjs : j < ops.size := by have := ok.le; omega
    have hunj : listed.getD j true = false := getD_in (by rw [inv.size]; exact hjs) (by simpa using hun)
    have hjr : j ∈ Region.ready .any ops listed := by
      refine mem_ready.2 ⟨hunj, ops[j], Array.getElem?_eq_getElem hjs, fun e he hb => ?_⟩
      have := ok.each j _ hj (Array.getElem?_eq_getElem hjs) e he hb
      simpa using hless e.on this
    rw [show f + 1 + (ops.size - n) = (f + (ops.size - n)) + 1 by omega]
    refine ⟨fun h0 => (by rw [h0] at hjr; cases hjr), fun i hi => ?_⟩
    obtain ⟨hiu, o, ho, hpre⟩ := mem_ready.1 hi
    have his : i < ops.size := (Array.getElem?_eq_some_iff.1 ho).1
    have hin : i < n := by
      rcases ok.tail with h | ⟨hs, hcn⟩
      · omega
      · rcases Nat.lt_or_ge i n with h | h
        · exact h
        · exact absurd hi (tail_waits hs hcn (by omega) inv (n - j) j rfl hj hunj i h)
    have hiF : listed.getD i false = false := getD_both hiu
    have hol : (ops.toList.take n)[i]? = some o := by rw [List.getElem?_take, if_pos hin]; simpa using ho
    have hw := hh i o hin ho (fun j => listed.getD j false) u w' hiF (fun j k hj hk => by
      obtain ⟨o', ho', e, he, hb, hon⟩ := Region.waitsFor_spec hk
      subst hon
      exact inv.closed j o' ho' hj e he hb) (fun k hk => by
      obtain ⟨o', ho', e, he, hb, hon⟩ := Region.waitsFor_spec hk
      have : o' = o := Option.some.inj (ho'.symm.trans ho)
      subst this
      subst hon
      have := ok.each i _ hin ho e he hb
      exact ⟨hpre e he hb, by omega⟩) hI
    refine wpOp_of_wpW ho (wpW_mono (fun a' w'' hK => ?_) hw)
    obtain ⟨v, rfl, hI'⟩ := hK
    rw [puts_put2 _ 0 i u a o.dst v ok.nodup (by rw [List.getElem?_map, hol]; rfl), Nat.zero_add]
    have hset : (listed.setIfInBounds i true).getD i false = true := by
      have hi' : i < listed.size := by rw [inv.size]; exact his
      simp [hi']
    have hfun : (fun j => (listed.setIfInBounds i true).getD j false) = setB (fun j => listed.getD j false) i := by
      funext j
      unfold setB
      split
      · rename_i e
        subst e
        exact hset
      · rename_i e
        exact getD_set_ne false (fun h => e h.symm)
    refine ih (listed.setIfInBounds i true) (updV u i v) w'' (inv.set hi hin) ?_ (by rw [hfun]; exact hI')
    have := countU_less (fun j => !listed.getD j false) (fun j => !(listed.setIfInBounds i true).getD j false) i (by simp only [hiF]; rfl) (by simp only [hset]; rfl) (fun j hj => by simp only [getD_set_ne false (Ne.symm hj)]) n hin
    omega

/-! ### Blocks made and written -/
/-- What the block that operation j made holds. -/
def contN : List (Nat × Nat × Array Value) → Array Value → Nat → (Nat → Bool) → Array Value
  | [], cs, _, _ => cs
  | (i, j', cs') :: r, cs, j, d => if (j' == j && d i) = true then cs' else contN r cs j d
theorem contN_other {i j : Nat} {d : Nat → Bool} : ∀ (WL : List (Nat × Nat × Array Value)) (cs : Array Value), (∀ x ∈ WL, x.2.1 = j → x.1 ≠ i) → contN WL cs j (setB d i) = contN WL cs j d
  | [], _, _ => rfl
  | (i', j', cs') :: r, cs, h => by
    have ih := contN_other (d := d) r cs (fun x hx => h x (by simp [hx]))
    unfold contN
    rw [ih]
    by_cases e : j' = j
    · have hne : i' ≠ i := h (i', j', cs') (by simp) e
      simp only [setB, if_neg hne]
    · have : (j' == j) = false := by simpa using e
      simp only [this, Bool.false_and]
theorem contN_none {j : Nat} {d : Nat → Bool} : ∀ (WL : List (Nat × Nat × Array Value)) (cs : Array Value), (∀ x ∈ WL, x.2.1 = j → d x.1 = false) → contN WL cs j d = cs
  | [], _, _ => rfl
  | (i', j', cs') :: r, cs, h => by
    have ih := contN_none (d := d) r cs (fun x hx => h x (by simp [hx]))
    unfold contN
    rw [ih]
    by_cases e : j' = j
    · have : d i' = false := h (i', j', cs') (by simp) e
      simp [this]
    · have : (j' == j) = false := by simpa using e
      simp only [this, Bool.false_and, Bool.false_eq_true, if_false]
theorem contN_hit {j i : Nat} {c : Array Value} {d : Nat → Bool} (hd : d i = true) : ∀ (WL : List (Nat × Nat × Array Value)) (cs : Array Value), (i, j, c) ∈ WL → (∀ x ∈ WL, x.2.1 = j → x = (i, j, c)) → contN WL cs j d = c
  | [], _, h, _ => by cases h
  | (i', j', cs') :: r, cs, h, hu => by
    unfold contN
    by_cases e : j' = j
    · have := hu (i', j', cs') (by simp) e
      simp only [Prod.mk.injEq] at this
      obtain ⟨rfl, rfl, rfl⟩ := this
      simp [hd]
    · have hr : (i, j, c) ∈ r := by
        rcases List.mem_cons.1 h with h' | h'
        · simp only [Prod.mk.injEq] at h'
          exact absurd h'.2.1.symm e
        · exact h'
      have : (j' == j) = false := by simpa using e
      simp only [this, Bool.false_and, Bool.false_eq_true, if_false]
      exact contN_hit hd r cs hr (fun x hx => hu x (by simp [hx]))
theorem contN_congr {j : Nat} {d d' : Nat → Bool} : ∀ (WL : List (Nat × Nat × Array Value)) (cs : Array Value), (∀ x ∈ WL, d x.1 = d' x.1) → contN WL cs j d = contN WL cs j d'
  | [], _, _ => rfl
  | (i', j', cs') :: r, cs, h => by
    have ih := contN_congr r cs (fun x hx => h x (by simp [hx])) (d := d) (d' := d') (j := j)
    unfold contN
    rw [ih, h (i', j', cs') (by simp)]

def factV (RL : List (Value → Prop)) (j : Nat) : Value → Prop := RL.getD j (fun _ => True)

structure InvN (w : World) (ty : TypeId) (RL : List (Value → Prop)) (RW : List (Value → World → Prop)) (FL : List (Nat × Array Value)) (WL : List (Nat × Nat × Array Value)) (n : Nat) (d : Nat → Bool) (u : Nat → Value) (w' : World) : Prop where
  fr : Fr Nothing w w'
  facts : ∀ j, j < n → d j = true → factV RL j (u j)
  mem : (∀ x ∈ WL, d x.1 = false) → ∀ j, j < n → d j = true → factOf RW j (u j) w'
  news : ∀ j cs, (j, cs) ∈ FL → d j = true → ∃ g, u j = .pointer (some ⟨g, 0, none⟩) ∧ w.heap.size ≤ g ∧ Blk w' g ty (contN WL cs j d)
  apart : ∀ j cs j' cs', (j, cs) ∈ FL → (j', cs') ∈ FL → j ≠ j' → d j = true → d j' = true → u j ≠ u j'

def WriteN (a : Act) (d : Option Tmp) (R : Value → Prop) (g : Nat) (ty : TypeId) (cs : Array Value) (w' : World) (a' : Act) (w'' : World) : Prop := ∃ v, a' = a.put d v ∧ R v ∧ Blk w'' g ty cs ∧ Fr (fun k => k = g) w' w''
def FreshN (a : Act) (d : Option Tmp) (R : Value → Prop) (RW : Value → World → Prop) (ty : TypeId) (cs : Array Value) (w' : World) (a' : Act) (w'' : World) : Prop := ∃ v, a' = a.put d v ∧ R v ∧ RW v w'' ∧ v = .pointer (some ⟨w'.heap.size, 0, none⟩) ∧ NewBlk w' w'' ty cs
def NormN (a : Act) (d : Option Tmp) (R : Value → Prop) (RW : Value → World → Prop) (w' : World) (a' : Act) (w'' : World) : Prop := ∃ v, a' = a.put d v ∧ R v ∧ RW v w'' ∧ Fr Nothing w' w''

/-- What is to be shown of an operation. -/
def obN (P : Program) (ops : Array Oper) (Q : Exit → Act → World → Prop) (w : World) (ty : TypeId) (F : (Nat → Value) → Act) (RL : List (Value → Prop)) (RW : List (Value → World → Prop)) (FL : List (Nat × Array Value)) (WL : List (Nat × Nat × Array Value)) (i : Nat) (o : Oper) : Prop :=
  match WL.find? (fun x => x.1 == i) with
  | some (_, j, cs') => ∀ u w' g, Fr Nothing w w' → (∀ j, Region.waitsFor .any ops i j = true → factV RL j (u j)) → u j = .pointer (some ⟨g, 0, none⟩) → (∃ cs, (j, cs) ∈ FL ∧ Blk w' g ty cs) →
      wpW P ops Q o (F u) w' (WriteN (F u) o.dst (factV RL i) g ty cs' w')
  | none => match FL.find? (fun x => x.1 == i) with
    | some (_, cs) => ∀ u w', Fr Nothing w w' → (∀ j, Region.waitsFor .any ops i j = true → factV RL j (u j)) →
        wpW P ops Q o (F u) w' (FreshN (F u) o.dst (factV RL i) (factOf RW i) ty cs w')
    | none => ∀ u w', Fr Nothing w w' → (∀ j, Region.waitsFor .any ops i j = true → factV RL j (u j)) → (WL.all (fun x => Region.waitsFor .any ops x.1 i) = true → ∀ j, Region.waitsFor .any ops i j = true → factOf RW j (u j) w') →
        wpW P ops Q o (F u) w' (NormN (F u) o.dst (factV RL i) (factOf RW i) w')
def headN (P : Program) (ops : Array Oper) (Q : Exit → Act → World → Prop) (w : World) (ty : TypeId) (F : (Nat → Value) → Act) (RL : List (Value → Prop)) (RW : List (Value → World → Prop)) (FL : List (Nat × Array Value)) (WL : List (Nat × Nat × Array Value)) : Nat → List Oper → Prop
  | _, [] => True
  | i, o :: r => obN P ops Q w ty F RL RW FL WL i o ∧ headN P ops Q w ty F RL RW FL WL (i + 1) r
theorem headN.at_ {P : Program} {ops : Array Oper} {Q : Exit → Act → World → Prop} {w : World} {ty : TypeId} {F : (Nat → Value) → Act} {RL : List (Value → Prop)} {RW : List (Value → World → Prop)} {FL : List (Nat × Array Value)} {WL : List (Nat × Nat × Array Value)} :
    ∀ {l : List Oper} {k : Nat}, headN P ops Q w ty F RL RW FL WL k l → ∀ i o, l[i]? = some o → obN P ops Q w ty F RL RW FL WL (k + i) o
  | [], _, _, _, _, h => by simp at h
  | o' :: r, k, h, 0, o, ho => by
    have : o' = o := by simpa using ho
    subst this
    exact h.1
  | o' :: r, k, h, i + 1, o, ho => by
    have := headN.at_ h.2 i o (by simpa using ho)
    rw [show k + 1 + i = k + (i + 1) by omega] at this
    exact this

def okN (ops : Array Oper) (n : Nat) (FL : List Nat) (WL : List (Nat × Nat)) : Bool :=
  FL.all (fun j => decide (j < n)) && WL.all (fun x => decide (x.1 < n) && FL.contains x.2 && Region.waitsFor .any ops x.1 x.2 && !FL.contains x.1) && decide (FL.Nodup) && decide ((WL.map (·.2)).Nodup) && decide ((WL.map (·.1)).Nodup)

theorem nodup_map {α : Type} {f : α → Nat} : ∀ {l : List α}, (l.map f).Nodup → ∀ x ∈ l, ∀ y ∈ l, f x = f y → x = y
  | [], _, x, hx, _, _, _ => by cases hx
  | z :: r, h, x, hx, y, hy, e => by
    rw [List.map_cons, List.nodup_cons] at h
    rcases List.mem_cons.1 hx with rfl | hx' <;> rcases List.mem_cons.1 hy with rfl | hy'
    · rfl
    · exact absurd (List.mem_map.2 ⟨y, hy', e.symm⟩) h.1
    · exact absurd (List.mem_map.2 ⟨x, hx', e⟩) h.1
    · exact nodup_map h.2 x hx' y hy' e

theorem wp_region_new {P : Program} {id : Nat} {Q : Exit → Act → World → Prop} {a : Act} {w : World} {l : List Oper} (n : Nat) (ty : TypeId) (RL : List (Value → Prop)) (RW : List (Value → World → Prop)) (FL : List (Nat × Array Value)) (WL : List (Nat × Nat × Array Value)) (hm : P.follows .mixedOrders = true) (hg : growT l.toArray n = true)
    (hok : okN l.toArray n (FL.map (·.1)) (WL.map fun x => (x.1, x.2.1)) = true)
    (hst : StableL Nothing w RW)
    (hh : headN P l.toArray Q w ty (fun u => puts ((l.take n).map (·.dst)) 0 u a) RL RW FL WL 0 (l.take n))
    (ht : ∀ u w', Fr Nothing w w' → (∀ j, j < n → factV RL j (u j)) → (∀ j cs, (j, cs) ∈ FL → ∃ g, u j = .pointer (some ⟨g, 0, none⟩) ∧ w.heap.size ≤ g ∧ Blk w' g ty (contN WL cs j (fun _ => true))) →
      (∀ j cs j' cs', (j, cs) ∈ FL → (j', cs') ∈ FL → j ≠ j' → u j ≠ u j') → wpList P l.toArray Q (l.drop n) (puts ((l.take n).map (·.dst)) 0 u a) w') : (Code.region id l.toArray true).wp P Q a w := by
  have ok := GrowT.of hg
  simp only [okN, Bool.and_eq_true, List.all_eq_true, decide_eq_true_eq, Bool.not_eq_true'] at hok
  obtain ⟨⟨⟨⟨k1, k2⟩, k3⟩, k4⟩, k5⟩ := hok
  have F1 : ∀ j cs, (j, cs) ∈ FL → j < n := fun j cs h => k1 j (List.mem_map.2 ⟨_, h, rfl⟩)
  have W1 : ∀ i j c, (i, j, c) ∈ WL → i < n ∧ (∃ cs, (j, cs) ∈ FL) ∧ Region.waitsFor .any l.toArray i j = true ∧ ∀ cs, (i, cs) ∉ FL := by
    intro i j c h
    obtain ⟨⟨⟨h1, h2⟩, h3⟩, h4⟩ := k2 (i, j) (List.mem_map.2 ⟨_, h, rfl⟩)
    refine ⟨h1, ?_, h3, fun cs hc => ?_⟩
    · have := List.contains_iff_mem.1 h2
      obtain ⟨⟨j', cs⟩, hx, e⟩ := List.mem_map.1 this
      exact ⟨cs, by simp only at e; rw [← e]; exact hx⟩
    · have : (FL.map (·.1)).contains i = true := List.contains_iff_mem.2 (List.mem_map.2 ⟨_, hc, rfl⟩)
      rw [h4] at this
      cases this
  have W2 : ∀ x ∈ WL, ∀ y ∈ WL, x.2.1 = y.2.1 → x = y := fun x hx y hy e => nodup_map (f := fun x => x.2.1) (by rw [List.map_map] at k4; exact k4) x hx y hy e
  have W3 : ∀ x ∈ WL, ∀ y ∈ WL, x.1 = y.1 → x = y := fun x hx y hy e => nodup_map (f := fun x => x.1) (by rw [List.map_map] at k5; exact k5) x hx y hy e
  have F2 : ∀ x ∈ FL, ∀ y ∈ FL, x.1 = y.1 → x = y := fun x hx y hy e => nodup_map (f := fun x => x.1) k3 x hx y hy e
  obtain ⟨u0, hu0⟩ := puts_start ((l.take n).map (·.dst)) 0 a
  refine wp_region_any hm ?_
  have inv0 : HeadInv .any l.toArray n (Array.replicate l.toArray.size false) :=
    ⟨by simp, fun j oj _ hl => (by rw [getD_replicate_false] at hl; cases hl), fun t _ ht => getD_in (by simpa using ht) (getD_replicate_false _ _)⟩
  have hc : countU (fun j => !(Array.replicate l.toArray.size false).getD j false) n = n := by
    have h : ∀ m, countU (fun j => !(Array.replicate l.toArray.size false).getD j false) m = m := by
      intro m
      induction m with
      | zero => rfl
      | succ m ih => rw [countU, ih, getD_replicate_false]; rfl
    exact h n
  have := inv_go (P := P) (Q := Q) (a := a) ok (InvN w ty RL RW FL WL n) ?_ ?_ n _ u0 w.drew inv0 hc
    ⟨(Fr.refl _ _).drew, fun j _ h => (by rw [getD_replicate_false] at h; cases h), fun _ j _ h => (by rw [getD_replicate_false] at h; cases h), fun j _ _ h => (by rw [getD_replicate_false] at h; cases h), fun j _ _ _ _ _ _ h => (by rw [getD_replicate_false] at h; cases h)⟩
  · rw [show (l.toArray.toList.take n).map (·.dst) = (l.take n).map (·.dst) by simp, hu0, show n + (l.toArray.size - n) = l.toArray.size by have := ok.le; omega] at this
    exact this
  · intro i o hin ho d u w' hdi hclosed hwait hI
    have hol : (l.take n)[i]? = some o := by rw [List.getElem?_take, if_pos hin]; simpa using ho
    have hob := hh.at_ i o hol
    rw [Nat.zero_add] at hob
    have hdst : (l.toArray.toList.take n).map (·.dst) = (l.take n).map (·.dst) := by simp
    rw [hdst]
    have hfacts : ∀ j, Region.waitsFor .any l.toArray i j = true → factV RL j (u j) := fun j hj => hI.facts j (hwait j hj).2 (hwait j hj).1
    have upd : ∀ v j, j ≠ i → updV u i v j = u j := fun v j hj => by simp [updV, hj]
    have updi : ∀ v, updV u i v i = v := fun v => by simp [updV]
    have setne : ∀ j, j ≠ i → setB d i j = d j := fun j hj => by simp [setB, hj]
    have facts' : ∀ v, factV RL i v → ∀ j, j < n → setB d i j = true → factV RL j (updV u i v j) := by
      intro v hv j hj hd
      by_cases e : j = i
      · subst e; rw [updi]; exact hv
      · rw [upd v j e]; exact hI.facts j hj (by rw [← setne j e]; exact hd)
    have mem' : ∀ v w'', (∀ x ∈ WL, x.1 ≠ i) → factOf RW i v w'' → Fr Nothing w' w'' → (∀ x ∈ WL, setB d i x.1 = false) → ∀ j, j < n → setB d i j = true → factOf RW j (updV u i v j) w'' := by
      intro v w'' hnW hv hf hno j hj hd
      by_cases e : j = i
      · subst e; rw [updi]; exact hv
      · rw [upd v j e]
        exact hst.at_ j (u j) w' w'' hI.fr hf (hI.mem (fun x hx => by rw [← setne x.1 (hnW x hx)]; exact hno x hx) j hj (by rw [← setne j e]; exact hd))
    unfold obN at hob
    split at hob
    · rename_i _ i' j cs' hfind
      have hmem := List.mem_of_find?_eq_some hfind
      have hi' : i' = i := by simpa using List.find?_some hfind
      subst hi'
      obtain ⟨_, ⟨cs, hcs⟩, hwj, hnF⟩ := W1 _ _ _ hmem
      obtain ⟨g, hug, hgl, hgb⟩ := hI.news j cs hcs (hwait j hwj).1
      have hc0 : contN WL cs j d = cs := contN_none WL cs (fun x hx e => by
        have := W2 x hx _ hmem e
        subst this
        exact hdi)
      rw [hc0] at hgb
      refine wpW_mono ?_ (hob u w' g hI.fr hfacts hug ⟨cs, hcs, hgb⟩)
      rintro a' w'' ⟨v, rfl, hv, hb, hf⟩
      refine ⟨v, rfl, ⟨hI.fr.then_ hf (fun k hk e => by have e' : k = g := e; omega), facts' v hv, fun hno => (by have := hno _ hmem; simp [setB] at this), fun j2 cs2 hj2 hd2 => ?_, fun j2 cs2 j3 cs3 hj2 hj3 hne hd2 hd3 => ?_⟩⟩
      · have hne : j2 ≠ i' := fun e => hnF cs2 (by rw [← e]; exact hj2)
        rw [upd v j2 hne]
        rw [setne j2 hne] at hd2
        by_cases e : j2 = j
        · subst e
          have := F2 _ hj2 _ hcs rfl
          simp only [Prod.mk.injEq] at this
          obtain ⟨_, rfl⟩ := this
          refine ⟨g, hug, hgl, ?_⟩
          rw [contN_hit (i := i') (c := cs') (by simp [setB]) WL _ hmem (fun x hx e => W2 x hx _ hmem e)]
          exact hb
        · obtain ⟨g2, hu2, hl2, hb2⟩ := hI.news j2 cs2 hj2 hd2
          refine ⟨g2, hu2, hl2, ?_⟩
          rw [contN_other WL cs2 (fun x hx ex ei => by
            have := W3 x hx _ hmem ei
            subst this
            exact e ex.symm)]
          refine hb2.fr hf (fun eg => ?_)
          have eg' : g2 = g := eg
          subst eg'
          exact hI.apart j2 cs2 j cs hj2 hcs e hd2 (hwait j hwj).1 (hu2.trans hug.symm)
      · have hne2 : j2 ≠ i' := fun e => hnF cs2 (by rw [← e]; exact hj2)
        have hne3 : j3 ≠ i' := fun e => hnF cs3 (by rw [← e]; exact hj3)
        rw [upd v j2 hne2, upd v j3 hne3]
        exact hI.apart j2 cs2 j3 cs3 hj2 hj3 hne (by rw [← setne j2 hne2]; exact hd2) (by rw [← setne j3 hne3]; exact hd3)
    · rename_i hnone
      have hnW : ∀ x ∈ WL, x.1 ≠ i := fun x hx e => by
        have := List.find?_eq_none.1 hnone x hx
        simp [e] at this
      split at hob
      · rename_i _ i' cs hfind
        have hmem := List.mem_of_find?_eq_some hfind
        have hi' : i' = i := by simpa using List.find?_some hfind
        subst hi'
        refine wpW_mono ?_ (hob u w' hI.fr hfacts)
        rintro a' w'' ⟨v, rfl, hv, hvw, rfl, hN⟩
        refine ⟨_, rfl, ⟨hI.fr.trans hN.fr, facts' _ hv, mem' _ _ hnW hvw hN.fr, fun j2 cs2 hj2 hd2 => ?_, fun j2 cs2 j3 cs3 hj2 hj3 hne hd2 hd3 => ?_⟩⟩
        · rw [contN_other WL cs2 (fun x hx _ => hnW x hx)]
          by_cases e : j2 = i'
          · subst e
            have := F2 _ hj2 _ hmem rfl
            simp only [Prod.mk.injEq] at this
            obtain ⟨_, rfl⟩ := this
            refine ⟨w'.heap.size, updi _, hI.fr.size, ?_⟩
            rw [contN_none WL _ (fun x hx ex => by
              cases hdx : d x.1
              · rfl
              · have hw := (W1 x.1 x.2.1 x.2.2 hx).2.2.1
                rw [ex] at hw
                rw [hclosed _ _ hdx hw] at hdi
                cases hdi)]
            exact hN.blk
          · rw [upd _ j2 e]
            obtain ⟨g2, hu2, hl2, hb2⟩ := hI.news j2 cs2 hj2 (by rw [← setne j2 e]; exact hd2)
            exact ⟨g2, hu2, hl2, hb2.fr hN.fr (fun x => x)⟩
        · by_cases e2 : j2 = i'
          · subst e2
            rw [updi, upd _ j3 (fun e => hne e.symm)]
            obtain ⟨g3, hu3, hl3, hb3⟩ := hI.news j3 cs3 hj3 (by rw [← setne j3 (fun e => hne e.symm)]; exact hd3)
            rw [hu3]
            intro e
            have := hb3.lt
            simp only [Value.pointer.injEq, Option.some.injEq, Addr.mk.injEq, and_true] at e
            omega
          · by_cases e3 : j3 = i'
            · subst e3
              rw [updi, upd _ j2 e2]
              obtain ⟨g2, hu2, hl2, hb2⟩ := hI.news j2 cs2 hj2 (by rw [← setne j2 e2]; exact hd2)
              rw [hu2]
              intro e
              have := hb2.lt
              simp only [Value.pointer.injEq, Option.some.injEq, Addr.mk.injEq, and_true] at e
              omega
            · rw [upd _ j2 e2, upd _ j3 e3]
              exact hI.apart j2 cs2 j3 cs3 hj2 hj3 hne (by rw [← setne j2 e2]; exact hd2) (by rw [← setne j3 e3]; exact hd3)
      · rename_i hnoneF
        have hnF : ∀ x ∈ FL, x.1 ≠ i := fun x hx e => by
          have := List.find?_eq_none.1 hnoneF x hx
          simp [e] at this
        refine wpW_mono ?_ (hob u w' hI.fr hfacts (fun hE j hj => hI.mem (fun x hx => by
          cases hdx : d x.1
          · rfl
          · rw [hclosed _ _ hdx (List.all_eq_true.1 hE x hx)] at hdi
            cases hdi) j (hwait j hj).2 (hwait j hj).1))
        rintro a' w'' ⟨v, rfl, hv, hvw, hf⟩
        refine ⟨v, rfl, ⟨hI.fr.trans hf, facts' v hv, mem' _ _ hnW hvw hf, fun j2 cs2 hj2 hd2 => ?_, fun j2 cs2 j3 cs3 hj2 hj3 hne hd2 hd3 => ?_⟩⟩
        · have e : j2 ≠ i := hnF _ hj2
          rw [contN_other WL cs2 (fun x hx _ => hnW x hx), upd v j2 e]
          obtain ⟨g2, hu2, hl2, hb2⟩ := hI.news j2 cs2 hj2 (by rw [← setne j2 e]; exact hd2)
          exact ⟨g2, hu2, hl2, hb2.fr hf (fun x => x)⟩
        · have e2 : j2 ≠ i := hnF _ hj2
          have e3 : j3 ≠ i := hnF _ hj3
          rw [upd v j2 e2, upd v j3 e3]
          exact hI.apart j2 cs2 j3 cs3 hj2 hj3 hne (by rw [← setne j2 e2]; exact hd2) (by rw [← setne j3 e3]; exact hd3)
  · intro d u w' hall hI
    have := ht u w' hI.fr (fun j hj => hI.facts j hj (hall j hj)) (fun j cs hj => by
      obtain ⟨g, h1, h2, h3⟩ := hI.news j cs hj (hall j (F1 j cs hj))
      rw [contN_congr WL cs (d' := fun _ => true) (fun x hx => hall x.1 (W1 x.1 x.2.1 x.2.2 hx).1)] at h3
      exact ⟨g, h1, h2, h3⟩) (fun j cs j' cs' hj hj' hne => hI.apart j cs j' cs' hj hj' hne (hall j (F1 j cs hj)) (hall j' (F1 j' cs' hj')))
    simpa using this
end Go.Proofs.YtmpokappjogehaaGreatDoor

/- Regions in a round of a loop over an iterator, at the wide fence: a plain walk serves there. Plain lemmas over any program. -/
namespace Go.Proofs.YtmpokappjogehaaGreatDoor
open Go.RowKit

/-- Operations that defer nothing. -/
def noDefer (o : Oper) : Bool := match o.op with
  | .defer _ => false
  | _ => true
theorem noDefer_ne {o : Oper} (h : noDefer o = true) : ∀ c, o.op ≠ .defer c := fun c e => by unfold noDefer at h; rw [e] at h; cases h

theorem rowsIn_wide {n r : Nat} {P : Program} {row : String} {args : Array Value} {w : World} {R : Value → World → Prop} (h : Rows P row args w R) : RowsIn (Fence.wide.inRound r) n P row args w R :=
  fun c cs _ => let ⟨v, w', q, s⟩ := h c cs; ⟨v, w', q, stepsIn_wide.2 s⟩

theorem oper_wide {r n : Nat} {P : Program} {o : Oper} {a : Act} {w : World} {K K' : Act → World → Prop} {Q Q' : Exit → Act → World → Prop} (hd : noDefer o = true) (hK : ∀ a w, K a w → K' a w) (hQ : ∀ e a w, Q e a w → Q' e a w) (h : o.wp P a w K Q) :
    o.wpIn (Fence.wide.inRound r) n P a w K' Q' := by
  refine ⟨fun _ _ => trivial, ?_⟩
  rw [Oper.semAt_plain _ _ _ (noDefer_ne hd)]
  unfold Oper.wp at h
  generalize (execOp a.eval o).run P w = x at *
  have hdd : ((Fence.wide.inRound r).depth.isSome = true → 1 ≤ n) := fun h => (by cases h)
  rcases x with ⟨x, w'⟩ | ⟨x, w'⟩
  · cases x with
    | value v => exact hK _ _ h
    | skip => exact hK _ _ h
    | defer d => exact hK _ _ h
    | enter f args =>
      refine ⟨hdd, CallsIn.inRound r (callsIn_wide.2 (Calls.mono h fun e w'' he => ?_))⟩
      cases e with
      | returned v => exact hK _ _ he
      | panicked ch => exact hQ _ _ _ he
      | outgrown => obtain ⟨a', w3, hq⟩ := he; exact ⟨a', w3, hQ _ _ _ hq⟩
    | row rw_ args => exact ⟨hdd, rowsIn_wide (h.mono fun v w'' hv => hK _ _ hv)⟩
    | _ => exact absurd h id
  · cases x <;> first | exact hQ _ _ _ h | exact absurd h id

theorem wpListIn_round {r n : Nat} {P : Program} {ops : Array Oper} {Q : Exit → Act → World → Prop} : ∀ {l : List Oper} {a : Act} {w : World}, (l.all noDefer) = true → wpList P ops (fun e a w => Q e a w ∧ e = .normal) l a w → wpListIn (Fence.wide.inRound r) n P ops Q l a w
  | [], _, _, _, h => h.1
  | o :: rest, a, w, hd, h => by
    rw [List.all_cons, Bool.and_eq_true] at hd
    unfold wpList at h
    unfold wpListIn
    split
    · rename_i hw
      rw [if_pos hw] at h
      rcases h with h | ⟨_, a', w', hq⟩
      · exact oper_wide hd.1 (fun a w hk => wpListIn_round hd.2 hk) (fun _ _ _ hq => hq.1) h
      · exact absurd hq.2 (by simp)
    · rename_i hw
      rw [if_neg hw] at h
      exact ⟨fun _ _ => trivial, wpListIn_round hd.2 h⟩

theorem wpIn_round_lit {r n : Nat} {P : Program} {id : Nat} {l : List Oper} {Q : Exit → Act → World → Prop} {a : Act} {w : World} (hd : (l.all noDefer) = true) (h : wpList P l.toArray (fun e a w => Q e a w ∧ e = .normal) l a w) : (Code.region id l.toArray false).wpIn (Fence.wide.inRound r) n P Q a w :=
  wpIn_region_lit (wpListIn_round hd h)

theorem wpAnyIn_round {r n : Nat} {P : Program} {md : Region.Mode} {ops : Array Oper} {Q : Exit → Act → World → Prop} (hd : ∀ (i : Nat) (o : Oper), ops[i]? = some o → noDefer o = true) :
    ∀ (fuel : Nat) (listed : Array Bool) (a : Act) (w : World), wpAny P md ops (fun e a w => Q e a w ∧ e = .normal) fuel listed a w → wpAnyIn (Fence.wide.inRound r) n P md ops Q fuel listed a w
  | 0, _, _, _, h => ⟨h.1, h.2.1⟩
  | fuel + 1, listed, a, w, h => by
    refine ⟨fun h0 => (h.1 h0).1, fun i hi => ?_⟩
    have h2 := h.2 i hi
    unfold wpOp at h2
    unfold wpOpIn
    cases ho : ops[i]? with
    | none => rw [ho] at h2; exact wpAnyIn_round hd fuel _ _ _ h2
    | some o =>
      rw [ho] at h2
      simp only at h2 ⊢
      split at h2
      · rename_i hw
        rw [if_pos hw]
        rcases h2 with h3 | ⟨_, a', w', hq⟩
        · exact oper_wide (hd i o ho) (fun a' w' hk => wpAnyIn_round hd fuel _ a' w' hk) (fun _ _ _ hq => hq.1) h3
        · exact absurd hq.2 (by simp)
      · rename_i hw
        rw [if_neg hw]
        exact ⟨fun _ _ => trivial, wpAnyIn_round hd fuel _ _ _ h2⟩

theorem wpAny_new {P : Program} {Q : Exit → Act → World → Prop} {a : Act} {w : World} {l : List Oper} (n : Nat) (ty : TypeId) (RL : List (Value → Prop)) (RW : List (Value → World → Prop)) (FL : List (Nat × Array Value)) (WL : List (Nat × Nat × Array Value)) (hg : growT l.toArray n = true)
    (hok : okN l.toArray n (FL.map (·.1)) (WL.map fun x => (x.1, x.2.1)) = true)
    (hst : StableL Nothing w RW)
    (hh : headN P l.toArray Q w ty (fun u => puts ((l.take n).map (·.dst)) 0 u a) RL RW FL WL 0 (l.take n))
    (ht : ∀ u w', Fr Nothing w w' → (∀ j, j < n → factV RL j (u j)) → (∀ j cs, (j, cs) ∈ FL → ∃ g, u j = .pointer (some ⟨g, 0, none⟩) ∧ w.heap.size ≤ g ∧ Blk w' g ty (contN WL cs j (fun _ => true))) →
      (∀ j cs j' cs', (j, cs) ∈ FL → (j', cs') ∈ FL → j ≠ j' → u j ≠ u j') → wpList P l.toArray Q (l.drop n) (puts ((l.take n).map (·.dst)) 0 u a) w') : wpAny P .any l.toArray Q l.toArray.size (Array.replicate l.toArray.size false) a w.drew := by
  have ok := GrowT.of hg
  simp only [okN, Bool.and_eq_true, List.all_eq_true, decide_eq_true_eq, Bool.not_eq_true'] at hok
  obtain ⟨⟨⟨⟨k1, k2⟩, k3⟩, k4⟩, k5⟩ := hok
  have F1 : ∀ j cs, (j, cs) ∈ FL → j < n := fun j cs h => k1 j (List.mem_map.2 ⟨_, h, rfl⟩)
  have W1 : ∀ i j c, (i, j, c) ∈ WL → i < n ∧ (∃ cs, (j, cs) ∈ FL) ∧ Region.waitsFor .any l.toArray i j = true ∧ ∀ cs, (i, cs) ∉ FL := by
    intro i j c h
    obtain ⟨⟨⟨h1, h2⟩, h3⟩, h4⟩ := k2 (i, j) (List.mem_map.2 ⟨_, h, rfl⟩)
    refine ⟨h1, ?_, h3, fun cs hc => ?_⟩
    · have := List.contains_iff_mem.1 h2
      obtain ⟨⟨j', cs⟩, hx, e⟩ := List.mem_map.1 this
      exact ⟨cs, by simp only at e; rw [← e]; exact hx⟩
    · have : (FL.map (·.1)).contains i = true := List.contains_iff_mem.2 (List.mem_map.2 ⟨_, hc, rfl⟩)
      rw [h4] at this
      cases this
  have W2 : ∀ x ∈ WL, ∀ y ∈ WL, x.2.1 = y.2.1 → x = y := fun x hx y hy e => nodup_map (f := fun x => x.2.1) (by rw [List.map_map] at k4; exact k4) x hx y hy e
  have W3 : ∀ x ∈ WL, ∀ y ∈ WL, x.1 = y.1 → x = y := fun x hx y hy e => nodup_map (f := fun x => x.1) (by rw [List.map_map] at k5; exact k5) x hx y hy e
  have F2 : ∀ x ∈ FL, ∀ y ∈ FL, x.1 = y.1 → x = y := fun x hx y hy e => nodup_map (f := fun x => x.1) k3 x hx y hy e
  obtain ⟨u0, hu0⟩ := puts_start ((l.take n).map (·.dst)) 0 a
  have inv0 : HeadInv .any l.toArray n (Array.replicate l.toArray.size false) :=
    ⟨by simp, fun j oj _ hl => (by rw [getD_replicate_false] at hl; cases hl), fun t _ ht => getD_in (by simpa using ht) (getD_replicate_false _ _)⟩
  have hc : countU (fun j => !(Array.replicate l.toArray.size false).getD j false) n = n := by
    have h : ∀ m, countU (fun j => !(Array.replicate l.toArray.size false).getD j false) m = m := by
      intro m
      induction m with
      | zero => rfl
      | succ m ih => rw [countU, ih, getD_replicate_false]; rfl
    exact h n
  have := inv_go (P := P) (Q := Q) (a := a) ok (InvN w ty RL RW FL WL n) ?_ ?_ n _ u0 w.drew inv0 hc
    ⟨(Fr.refl _ _).drew, fun j _ h => (by rw [getD_replicate_false] at h; cases h), fun _ j _ h => (by rw [getD_replicate_false] at h; cases h), fun j _ _ h => (by rw [getD_replicate_false] at h; cases h), fun j _ _ _ _ _ _ h => (by rw [getD_replicate_false] at h; cases h)⟩
  · rw [show (l.toArray.toList.take n).map (·.dst) = (l.take n).map (·.dst) by simp, hu0, show n + (l.toArray.size - n) = l.toArray.size by have := ok.le; omega] at this
    exact this
  · intro i o hin ho d u w' hdi hclosed hwait hI
    have hol : (l.take n)[i]? = some o := by rw [List.getElem?_take, if_pos hin]; simpa using ho
    have hob := hh.at_ i o hol
    rw [Nat.zero_add] at hob
    have hdst : (l.toArray.toList.take n).map (·.dst) = (l.take n).map (·.dst) := by simp
    rw [hdst]
    have hfacts : ∀ j, Region.waitsFor .any l.toArray i j = true → factV RL j (u j) := fun j hj => hI.facts j (hwait j hj).2 (hwait j hj).1
    have upd : ∀ v j, j ≠ i → updV u i v j = u j := fun v j hj => by simp [updV, hj]
    have updi : ∀ v, updV u i v i = v := fun v => by simp [updV]
    have setne : ∀ j, j ≠ i → setB d i j = d j := fun j hj => by simp [setB, hj]
    have facts' : ∀ v, factV RL i v → ∀ j, j < n → setB d i j = true → factV RL j (updV u i v j) := by
      intro v hv j hj hd
      by_cases e : j = i
      · subst e; rw [updi]; exact hv
      · rw [upd v j e]; exact hI.facts j hj (by rw [← setne j e]; exact hd)
    have mem' : ∀ v w'', (∀ x ∈ WL, x.1 ≠ i) → factOf RW i v w'' → Fr Nothing w' w'' → (∀ x ∈ WL, setB d i x.1 = false) → ∀ j, j < n → setB d i j = true → factOf RW j (updV u i v j) w'' := by
      intro v w'' hnW hv hf hno j hj hd
      by_cases e : j = i
      · subst e; rw [updi]; exact hv
      · rw [upd v j e]
        exact hst.at_ j (u j) w' w'' hI.fr hf (hI.mem (fun x hx => by rw [← setne x.1 (hnW x hx)]; exact hno x hx) j hj (by rw [← setne j e]; exact hd))
    unfold obN at hob
    split at hob
    · rename_i _ i' j cs' hfind
      have hmem := List.mem_of_find?_eq_some hfind
      have hi' : i' = i := by simpa using List.find?_some hfind
      subst hi'
      obtain ⟨_, ⟨cs, hcs⟩, hwj, hnF⟩ := W1 _ _ _ hmem
      obtain ⟨g, hug, hgl, hgb⟩ := hI.news j cs hcs (hwait j hwj).1
      have hc0 : contN WL cs j d = cs := contN_none WL cs (fun x hx e => by
        have := W2 x hx _ hmem e
        subst this
        exact hdi)
      rw [hc0] at hgb
      refine wpW_mono ?_ (hob u w' g hI.fr hfacts hug ⟨cs, hcs, hgb⟩)
      rintro a' w'' ⟨v, rfl, hv, hb, hf⟩
      refine ⟨v, rfl, ⟨hI.fr.then_ hf (fun k hk e => by have e' : k = g := e; omega), facts' v hv, fun hno => (by have := hno _ hmem; simp [setB] at this), fun j2 cs2 hj2 hd2 => ?_, fun j2 cs2 j3 cs3 hj2 hj3 hne hd2 hd3 => ?_⟩⟩
      · have hne : j2 ≠ i' := fun e => hnF cs2 (by rw [← e]; exact hj2)
        rw [upd v j2 hne]
        rw [setne j2 hne] at hd2
        by_cases e : j2 = j
        · subst e
          have := F2 _ hj2 _ hcs rfl
          simp only [Prod.mk.injEq] at this
          obtain ⟨_, rfl⟩ := this
          refine ⟨g, hug, hgl, ?_⟩
          rw [contN_hit (i := i') (c := cs') (by simp [setB]) WL _ hmem (fun x hx e => W2 x hx _ hmem e)]
          exact hb
        · obtain ⟨g2, hu2, hl2, hb2⟩ := hI.news j2 cs2 hj2 hd2
          refine ⟨g2, hu2, hl2, ?_⟩
          rw [contN_other WL cs2 (fun x hx ex ei => by
            have := W3 x hx _ hmem ei
            subst this
            exact e ex.symm)]
          refine hb2.fr hf (fun eg => ?_)
          have eg' : g2 = g := eg
          subst eg'
          exact hI.apart j2 cs2 j cs hj2 hcs e hd2 (hwait j hwj).1 (hu2.trans hug.symm)
      · have hne2 : j2 ≠ i' := fun e => hnF cs2 (by rw [← e]; exact hj2)
        have hne3 : j3 ≠ i' := fun e => hnF cs3 (by rw [← e]; exact hj3)
        rw [upd v j2 hne2, upd v j3 hne3]
        exact hI.apart j2 cs2 j3 cs3 hj2 hj3 hne (by rw [← setne j2 hne2]; exact hd2) (by rw [← setne j3 hne3]; exact hd3)
    · rename_i hnone
      have hnW : ∀ x ∈ WL, x.1 ≠ i := fun x hx e => by
        have := List.find?_eq_none.1 hnone x hx
        simp [e] at this
      split at hob
      · rename_i _ i' cs hfind
        have hmem := List.mem_of_find?_eq_some hfind
        have hi' : i' = i := by simpa using List.find?_some hfind
        subst hi'
        refine wpW_mono ?_ (hob u w' hI.fr hfacts)
        rintro a' w'' ⟨v, rfl, hv, hvw, rfl, hN⟩
        refine ⟨_, rfl, ⟨hI.fr.trans hN.fr, facts' _ hv, mem' _ _ hnW hvw hN.fr, fun j2 cs2 hj2 hd2 => ?_, fun j2 cs2 j3 cs3 hj2 hj3 hne hd2 hd3 => ?_⟩⟩
        · rw [contN_other WL cs2 (fun x hx _ => hnW x hx)]
          by_cases e : j2 = i'
          · subst e
            have := F2 _ hj2 _ hmem rfl
            simp only [Prod.mk.injEq] at this
            obtain ⟨_, rfl⟩ := this
            refine ⟨w'.heap.size, updi _, hI.fr.size, ?_⟩
            rw [contN_none WL _ (fun x hx ex => by
              cases hdx : d x.1
              · rfl
              · have hw := (W1 x.1 x.2.1 x.2.2 hx).2.2.1
                rw [ex] at hw
                rw [hclosed _ _ hdx hw] at hdi
                cases hdi)]
            exact hN.blk
          · rw [upd _ j2 e]
            obtain ⟨g2, hu2, hl2, hb2⟩ := hI.news j2 cs2 hj2 (by rw [← setne j2 e]; exact hd2)
            exact ⟨g2, hu2, hl2, hb2.fr hN.fr (fun x => x)⟩
        · by_cases e2 : j2 = i'
          · subst e2
            rw [updi, upd _ j3 (fun e => hne e.symm)]
            obtain ⟨g3, hu3, hl3, hb3⟩ := hI.news j3 cs3 hj3 (by rw [← setne j3 (fun e => hne e.symm)]; exact hd3)
            rw [hu3]
            intro e
            have := hb3.lt
            simp only [Value.pointer.injEq, Option.some.injEq, Addr.mk.injEq, and_true] at e
            omega
          · by_cases e3 : j3 = i'
            · subst e3
              rw [updi, upd _ j2 e2]
              obtain ⟨g2, hu2, hl2, hb2⟩ := hI.news j2 cs2 hj2 (by rw [← setne j2 e2]; exact hd2)
              rw [hu2]
              intro e
              have := hb2.lt
              simp only [Value.pointer.injEq, Option.some.injEq, Addr.mk.injEq, and_true] at e
              omega
            · rw [upd _ j2 e2, upd _ j3 e3]
              exact hI.apart j2 cs2 j3 cs3 hj2 hj3 hne (by rw [← setne j2 e2]; exact hd2) (by rw [← setne j3 e3]; exact hd3)
      · rename_i hnoneF
        have hnF : ∀ x ∈ FL, x.1 ≠ i := fun x hx e => by
          have := List.find?_eq_none.1 hnoneF x hx
          simp [e] at this
        refine wpW_mono ?_ (hob u w' hI.fr hfacts (fun hE j hj => hI.mem (fun x hx => by
          cases hdx : d x.1
          · rfl
          · rw [hclosed _ _ hdx (List.all_eq_true.1 hE x hx)] at hdi
            cases hdi) j (hwait j hj).2 (hwait j hj).1))
        rintro a' w'' ⟨v, rfl, hv, hvw, hf⟩
        refine ⟨v, rfl, ⟨hI.fr.trans hf, facts' v hv, mem' _ _ hnW hvw hf, fun j2 cs2 hj2 hd2 => ?_, fun j2 cs2 j3 cs3 hj2 hj3 hne hd2 hd3 => ?_⟩⟩
        · have e : j2 ≠ i := hnF _ hj2
          rw [contN_other WL cs2 (fun x hx _ => hnW x hx), upd v j2 e]
          obtain ⟨g2, hu2, hl2, hb2⟩ := hI.news j2 cs2 hj2 (by rw [← setne j2 e]; exact hd2)
          exact ⟨g2, hu2, hl2, hb2.fr hf (fun x => x)⟩
        · have e2 : j2 ≠ i := hnF _ hj2
          have e3 : j3 ≠ i := hnF _ hj3
          rw [upd v j2 e2, upd v j3 e3]
          exact hI.apart j2 cs2 j3 cs3 hj2 hj3 hne (by rw [← setne j2 e2]; exact hd2) (by rw [← setne j3 e3]; exact hd3)
  · intro d u w' hall hI
    have := ht u w' hI.fr (fun j hj => hI.facts j hj (hall j hj)) (fun j cs hj => by
      obtain ⟨g, h1, h2, h3⟩ := hI.news j cs hj (hall j (F1 j cs hj))
      rw [contN_congr WL cs (d' := fun _ => true) (fun x hx => hall x.1 (W1 x.1 x.2.1 x.2.2 hx).1)] at h3
      exact ⟨g, h1, h2, h3⟩) (fun j cs j' cs' hj hj' hne => hI.apart j cs j' cs' hj hj' hne (hall j (F1 j cs hj)) (hall j' (F1 j' cs' hj')))
    simpa using this

/-- The rule for drawn regions that make blocks, in a round. -/
theorem wpIn_round_new {r m : Nat} {P : Program} {id : Nat} {Q : Exit → Act → World → Prop} {a : Act} {w : World} {l : List Oper} (n : Nat) (ty : TypeId) (RL : List (Value → Prop)) (RW : List (Value → World → Prop)) (FL : List (Nat × Array Value)) (WL : List (Nat × Nat × Array Value)) (hm : P.follows .mixedOrders = true) (hd : (l.all noDefer) = true) (hg : growT l.toArray n = true)
    (hok : okN l.toArray n (FL.map (·.1)) (WL.map fun x => (x.1, x.2.1)) = true)
    (hst : StableL Nothing w RW)
    (hh : headN P l.toArray (fun e a w => Q e a w ∧ e = .normal) w ty (fun u => puts ((l.take n).map (·.dst)) 0 u a) RL RW FL WL 0 (l.take n))
    (ht : ∀ u w', Fr Nothing w w' → (∀ j, j < n → factV RL j (u j)) → (∀ j cs, (j, cs) ∈ FL → ∃ g, u j = .pointer (some ⟨g, 0, none⟩) ∧ w.heap.size ≤ g ∧ Blk w' g ty (contN WL cs j (fun _ => true))) →
      (∀ j cs j' cs', (j, cs) ∈ FL → (j', cs') ∈ FL → j ≠ j' → u j ≠ u j') → wpList P l.toArray (fun e a w => Q e a w ∧ e = .normal) (l.drop n) (puts ((l.take n).map (·.dst)) 0 u a) w') : (Code.region id l.toArray true).wpIn (Fence.wide.inRound r) m P Q a w := by
  refine wpIn_region_any hm (wpAnyIn_round (fun i o ho => ?_) _ _ _ _ (wpAny_new n ty RL RW FL WL hg hok hst hh ht))
  exact List.all_eq_true.1 hd o (List.mem_of_getElem? (by simpa using ho))
end Go.Proofs.YtmpokappjogehaaGreatDoor
