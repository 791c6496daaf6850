/- A region that draws its order, whose first operations only make memory (or turn blocks of a set T) and whose last ones come in one forced order: each operation is walked once, whatever the order. Plain lemmas over any program. -/
import Derived.Test.YtkaghbpdnmigmaaDoorBase
import Derived.StillTail
namespace Go.Proofs.YtkaghbpdnmigmaaDoor
open Go.RowKit

def puts : List (Option Tmp) → Nat → (Nat → Value) → Act → Act
  | [], _, _, a => a
  | d :: r, k, u, a => puts r (k + 1) u (a.put d (u k))

def updV (u : Nat → Value) (i : Nat) (v : Value) : Nat → Value := fun j => if j = i then v else u j

theorem put_twice (a : Act) (x : Option Tmp) (v v' : Value) : (a.put x v).put x v' = a.put x v' := by
  cases x with
  | none => rfl
  | some d => simp [Act.put]
theorem put_same (a : Act) (x : Option Tmp) : ∃ v, a.put x v = a := by
  cases x with
  | none => exact ⟨undef, rfl⟩
  | some d =>
    refine ⟨a.tmps.getD d undef, ?_⟩
    have : a.tmps.setIfInBounds d (a.tmps.getD d undef) = a.tmps := by
      apply Array.ext
      · simp
      · intro i h1 h2
        rw [Array.getElem_setIfInBounds (by simpa using h2)]
        split
        · rename_i e
          subst e
          simp [h2]
        · rfl
    simp only [Act.put, this]

theorem puts_congr : ∀ (ds : List (Option Tmp)) (k : Nat) (u u' : Nat → Value) (a : Act), (∀ j, k ≤ j → u j = u' j) → puts ds k u a = puts ds k u' a
  | [], _, _, _, _, _ => rfl
  | d :: r, k, u, u', a, h => by
    rw [puts, puts, h k (Nat.le_refl _)]
    exact puts_congr r (k + 1) u u' _ (fun j hj => h j (by omega))

theorem puts_later : ∀ (ds : List (Option Tmp)) (k : Nat) (u : Nat → Value) (a : Act) (x : Option Tmp) (v : Value), x ∉ ds → (puts ds k u a).put x v = puts ds k u (a.put x v)
  | [], _, _, _, _, _, _ => rfl
  | d :: r, k, u, a, x, v, h => by
    rw [puts, puts, puts_later r (k + 1) u _ x v (fun hm => h (by simp [hm]))]
    congr 1
    exact Act.put_comm a (u k) v (fun e hd hx => h (by rw [hd, hx]; simp))

theorem puts_put : ∀ (ds : List (Option Tmp)) (k i : Nat) (u : Nat → Value) (a : Act) (x : Option Tmp) (v : Value), ds.Nodup → ds[i]? = some x → (puts ds k u a).put x v = puts ds k (updV u (k + i) v) a
  | [], _, _, _, _, _, _, _, h => by simp at h
  | d :: r, k, 0, u, a, x, v, hn, h => by
    have hx : d = x := by simpa using h
    subst hx
    rw [puts, puts, puts_later r (k + 1) u _ d v (List.nodup_cons.1 hn).1, put_twice]
    rw [show updV u (k + 0) v k = v by simp [updV]]
    exact puts_congr r (k + 1) _ _ _ (fun j hj => by simp only [updV]; rw [if_neg (by omega)])
  | d :: r, k, i + 1, u, a, x, v, hn, h => by
    rw [puts, puts, puts_put r (k + 1) i u _ x v (List.nodup_cons.1 hn).2 (by simpa using h)]
    rw [show updV u (k + (i + 1)) v k = u k by simp only [updV]; rw [if_neg (by omega)], show k + 1 + i = k + (i + 1) by omega]

theorem puts_start : ∀ (ds : List (Option Tmp)) (k : Nat) (a : Act), ∃ u, puts ds k u a = a
  | [], _, _ => ⟨fun _ => undef, rfl⟩
  | d :: r, k, a => by
    obtain ⟨v, hv⟩ := put_same a d
    obtain ⟨u, hu⟩ := puts_start r (k + 1) a
    refine ⟨updV u k v, ?_⟩
    rw [puts, show updV u k v k = v by simp [updV], hv]
    rw [puts_congr r (k + 1) (updV u k v) u a (fun j hj => by simp only [updV]; rw [if_neg (by omega)])]
    exact hu

def countU (p : Nat → Bool) : Nat → Nat
  | 0 => 0
  | n + 1 => countU p n + (if p n = true then 1 else 0)
theorem countU_congr (p q : Nat → Bool) : ∀ n, (∀ j, j < n → p j = q j) → countU p n = countU q n
  | 0, _ => rfl
  | n + 1, h => by rw [countU, countU, countU_congr p q n (fun j hj => h j (by omega)), h n (by omega)]
theorem countU_less (p q : Nat → Bool) (i : Nat) (hp : p i = true) (hq : q i = false) (h : ∀ j, j ≠ i → q j = p j) : ∀ n, i < n → countU q n + 1 = countU p n
  | 0, hi => by omega
  | n + 1, hi => by
    rw [countU, countU]
    by_cases e : i = n
    · subst e
      rw [hp, hq, countU_congr q p i (fun j hj => h j (by omega))]
      simp
    · have := countU_less p q i hp hq h n (by omega)
      rw [h n (fun e' => e e'.symm)]
      omega
theorem countU_pos (p : Nat → Bool) : ∀ n, countU p n ≠ 0 → ∃ j, j < n ∧ p j = true ∧ ∀ k, k < j → p k = false
  | 0, h => absurd rfl h
  | n + 1, h => by
    by_cases h0 : countU p n = 0
    · have hall : ∀ m, countU p m = 0 → ∀ k, k < m → p k = false := by
        intro m
        induction m with
        | zero => intro _ k hk; omega
        | succ m ih =>
          intro hm k hk
          rw [countU] at hm
          rcases Nat.lt_or_ge k m with h1 | h1
          · exact ih (by omega) k h1
          · have : k = m := by omega
            subst this
            cases hp : p k
            · rfl
            · rw [hp] at hm; simp at hm
      refine ⟨n, by omega, ?_, hall n h0⟩
      cases hp : p n
      · rw [countU, h0, hp] at h; simp at h
      · rfl
    · obtain ⟨j, hj, h1, h2⟩ := countU_pos p n h0
      exact ⟨j, by omega, h1, h2⟩
theorem countU_zero (p : Nat → Bool) : ∀ n, countU p n = 0 → ∀ j, j < n → p j = false
  | 0, _, _, hj => by omega
  | n + 1, h, j, hj => by
    rw [countU] at h
    rcases Nat.lt_or_ge j n with h1 | h1
    · exact countU_zero p n (by omega) j h1
    · have : j = n := by omega
      subst this
      cases hp : p j
      · rfl
      · rw [hp] at h; simp at h

/-- Which operation waits for which, among the first n. -/
def growB (ops : Array Oper) (n : Nat) : Bool :=
  decide (n ≤ ops.size) &&
  ((List.range n).all fun i => match ops[i]? with | some o => o.dst.isSome && o.after.all (fun e => !Region.binds .any e || decide (e.on < i)) | none => false) &&
  decide ((ops.toList.take n).map (·.dst)).Nodup &&
  (decide (n = ops.size) || (Region.sinkB .any ops n && Region.chainB .any ops n)) &&
  Region.seqB .any ops (ops.size - n) n (Array.replicate n true ++ Array.replicate (ops.size - n) false)

structure GrowOk (ops : Array Oper) (n : Nat) : Prop where
  le : n ≤ ops.size
  each : ∀ i o, i < n → ops[i]? = some o → o.dst.isSome = true ∧ ∀ e ∈ o.after, Region.binds .any e = true → e.on < i
  nodup : ((ops.toList.take n).map (·.dst)).Nodup
  tail : n = ops.size ∨ (Region.sinkB .any ops n = true ∧ Region.chainB .any ops n = true)
  seq : Region.seqB .any ops (ops.size - n) n (Array.replicate n true ++ Array.replicate (ops.size - n) false) = true
theorem GrowOk.of {ops : Array Oper} {n : Nat} (h : growB ops n = true) : GrowOk ops n := by
  simp only [growB, Bool.and_eq_true, Bool.or_eq_true, decide_eq_true_eq] at h
  obtain ⟨⟨⟨⟨h1, h2⟩, h3⟩, h4⟩, h5⟩ := h
  refine ⟨h1, fun i o hi ho => ?_, h3, h4, h5⟩
  have h := List.all_eq_true.1 h2 i (List.mem_range.2 hi)
  rw [ho] at h
  simp only [Bool.and_eq_true] at h
  refine ⟨h.1, fun e he hb => ?_⟩
  have := (Array.all_eq_true_iff_forall_mem.1 h.2) e he
  simpa [hb] using this

/-- One operation more: its value, and what is known of it. -/
def OneUp (a : Act) (d : Option Tmp) (T : Nat → Prop) (w : World) (R : Value → World → Prop) (a' : Act) (w'' : World) : Prop := ∃ v, a' = a.put d v ∧ Fr T w w'' ∧ R v w''

/-- An operation that is wanted is walked; one that is not yields no value. -/
def wpW (P : Program) (ops : Array Oper) (Q : Exit → Act → World → Prop) (o : Oper) (a : Act) (w : World) (K : Act → World → Prop) : Prop :=
  (Region.wanted o (yielded ops a.tmps) = true ∧ o.wp P a w K Q) ∨ (Region.wanted o (yielded ops a.tmps) = false ∧ K (a.put o.dst undef) w)

def headAll (P : Program) (ops : Array Oper) (Q : Exit → Act → World → Prop) (C : World → Prop) (T : Nat → Nat → Prop) (E : Nat → World → Prop) (F : (Nat → Value) → Act) (R : Nat → Value → World → Prop) : Nat → List Oper → Prop
  | _, [] => True
  | i, o :: r => (∀ u w', C w' → E i w' → (∀ j, Region.waitsFor .any ops i j = true → R j (u j) w') → wpW P ops Q o (F u) w' (OneUp (F u) o.dst (T i) w' (R i))) ∧ headAll P ops Q C T E F R (i + 1) r

theorem headAll.at_ {P : Program} {ops : Array Oper} {Q : Exit → Act → World → Prop} {C : World → Prop} {T : Nat → Nat → Prop} {E : Nat → World → Prop} {F : (Nat → Value) → Act} {R : Nat → Value → World → Prop} : ∀ {l : List Oper} {k : Nat}, headAll P ops Q C T E F R k l →
    ∀ i o, l[i]? = some o → ∀ u w', C w' → E (k + i) w' → (∀ j, Region.waitsFor .any ops (k + i) j = true → R j (u j) w') → wpW P ops Q o (F u) w' (OneUp (F u) o.dst (T (k + i)) w' (R (k + i)))
  | [], _, _, _, _, h => by simp at h
  | o' :: r, k, h, 0, o, ho => by
    have : o' = o := by simpa using ho
    subst this
    exact h.1
  | o' :: r, k, h, i + 1, o, ho => by
    have := headAll.at_ h.2 i o (by simpa using ho)
    rwa [show k + 1 + i = k + (i + 1) by omega] at this

theorem wpOp_of_wpW {P : Program} {ops : Array Oper} {Q : Exit → Act → World → Prop} {i : Nat} {o : Oper} {K : Act → World → Prop} {a : Act} {w : World} (ho : ops[i]? = some o) (h : wpW P ops Q o a w K) : wpOp P ops Q i K a w := by
  unfold wpOp
  rw [ho]
  rcases h with ⟨hw, h⟩ | ⟨hw, h⟩
  · simp only [hw, if_true]
    exact .inl h
  · simp only [hw, Bool.false_eq_true, if_false]
    exact h
theorem wpW_mono {P : Program} {ops : Array Oper} {Q : Exit → Act → World → Prop} {o : Oper} {K K' : Act → World → Prop} {a : Act} {w : World} (hK : ∀ a w, K a w → K' a w) (h : wpW P ops Q o a w K) : wpW P ops Q o a w K' := by
  rcases h with ⟨hw, h⟩ | ⟨hw, h⟩
  · exact .inl ⟨hw, Oper.wp_mono hK h⟩
  · exact .inr ⟨hw, hK _ _ h⟩

structure Stays (C : World → Prop) (T : Nat → Nat → Prop) (E : Nat → World → Prop) (R : Nat → Value → World → Prop) : Prop where
  c : ∀ i w' w'', C w' → Fr (T i) w' w'' → C w''
  e : ∀ i j w' w'', i ≠ j → C w' → Fr (T i) w' w'' → E j w' → E j w''
  r : ∀ i j v w' w'', i ≠ j → C w' → Fr (T i) w' w'' → R j v w' → R j v w''

theorem grow_go {P : Program} {ops : Array Oper} {Q : Exit → Act → World → Prop} {C : World → Prop} {T : Nat → Nat → Prop} {E : Nat → World → Prop} {a : Act} {R : Nat → Value → World → Prop} {n : Nat} (ok : GrowOk ops n)
    (hst : Stays C T E R)
    (hh : headAll P ops Q C T E (fun u => puts ((ops.toList.take n).map (·.dst)) 0 u a) R 0 (ops.toList.take n))
    (ht : ∀ u w', C w' → (∀ j, j < n → R j (u j) w') → wpList P ops Q (ops.toList.drop n) (puts ((ops.toList.take n).map (·.dst)) 0 u a) w') :
    ∀ (f : Nat) (listed : Array Bool) (u : Nat → Value) (w' : World), HeadInv .any ops n listed → countU (fun j => !listed.getD j false) n = f → C w' → (∀ j, j < n → listed.getD j false = false → E j w') →
      (∀ j, j < n → listed.getD j false = true → R j (u j) w') → wpAny P .any ops Q (f + (ops.size - n)) listed (puts ((ops.toList.take n).map (·.dst)) 0 u a) w' := by
  intro f
  induction f with
  | zero =>
    intro listed u w' inv hc hf hE hR
    have hall : ∀ j, j < n → listed.getD j false = true := fun j hj => by simpa using countU_zero _ n hc j hj
    have he : listed = Array.replicate n true ++ Array.replicate (ops.size - n) false := by
      apply Array.ext
      · rw [inv.size]; have := ok.le; simp; omega
      · intro i h1 h2
        rcases Nat.lt_or_ge i n with hi | hi
        · have := hall i hi
          rw [Array.getElem_append_left (by simpa using hi)]
          simpa [h1] using this
        · have := inv.tail i hi (by rw [← inv.size]; exact h1)
          rw [Array.getElem_append_right (by simpa using hi)]
          simpa [h1] using this
    subst he
    have hdl : (ops.toList.drop n).length = ops.size - n := by simp
    have := wpAny_of_seq (P := P) (md := .any) (ops := ops) (Q' := Q) (ops.toList.drop n) n _ (puts ((ops.toList.take n).map (·.dst)) 0 u a) w' (fun j => by simp [List.getElem?_drop]) (by rw [hdl]; exact ok.seq) (ht u w' hf (fun j hj => hR j hj (hall j hj)))
    rw [hdl] at this
    rwa [Nat.zero_add]
  | succ f ih =>
    intro listed u w' inv hc hf hE hR
    obtain ⟨j, hj, hun, hless⟩ := countU_pos (fun j => !listed.getD j false) n (by omega)
    have hjs : j < ops.size := by have := ok.le; omega
    have hunj : listed.getD j true = false := getD_in (by rw [inv.size]; exact hjs) (by simpa using hun)
    have hjr : j ∈ Region.ready .any ops listed := by
      refine mem_ready.2 ⟨hunj, ops[j], Array.getElem?_eq_getElem hjs, fun e he hb => ?_⟩
      have := (ok.each j _ hj (Array.getElem?_eq_getElem hjs)).2 e he hb
      simpa using hless e.on this
    rw [show f + 1 + (ops.size - n) = (f + (ops.size - n)) + 1 by omega]
    refine ⟨fun h0 => (by rw [h0] at hjr; cases hjr), fun i hi => ?_⟩
    obtain ⟨hiu, o, ho, hpre⟩ := mem_ready.1 hi
    have his : i < ops.size := (Array.getElem?_eq_some_iff.1 ho).1
    have hin : i < n := by
      rcases ok.tail with h | ⟨hs, hch⟩
      · omega
      · rcases Nat.lt_or_ge i n with h | h
        · exact h
        · exact absurd hi (tail_waits hs hch (by omega) inv (n - j) j rfl hj hunj i h)
    have hiF : listed.getD i false = false := getD_both hiu
    have hol : (ops.toList.take n)[i]? = some o := by rw [List.getElem?_take, if_pos hin]; simpa using ho
    have hw := hh.at_ i o hol u w' hf (by rw [Nat.zero_add]; exact hE i hin hiF) (fun k hk => by
      obtain ⟨o', ho', e, he, hb, hon⟩ := Region.waitsFor_spec hk
      rw [Nat.zero_add] at ho'
      have : o' = o := Option.some.inj (ho'.symm.trans ho)
      subst this
      subst hon
      have hlt := (ok.each i _ hin ho).2 e he hb
      exact hR e.on (by omega) (hpre e he hb))
    rw [Nat.zero_add] at hw
    refine wpOp_of_wpW ho (wpW_mono (fun a' w'' hK => ?_) hw)
    obtain ⟨v, rfl, hf', hRi⟩ := hK
    rw [puts_put _ 0 i u a o.dst v ok.nodup (by rw [List.getElem?_map, hol]; rfl), Nat.zero_add]
    refine ih (listed.setIfInBounds i true) (updV u i v) w'' (inv.set hi hin) ?_ (hst.c i w' w'' hf hf') (fun k hk hl => ?_) (fun k hk hl => ?_)
    · have := countU_less (fun j => !listed.getD j false) (fun j => !(listed.setIfInBounds i true).getD j false) i (by simp only [hiF]; rfl) (by
        have : (listed.setIfInBounds i true).getD i false = true := by
          have hi' : i < listed.size := by rw [inv.size]; exact his
          simp [hi']
        simp only [this]; rfl) (fun j hj => by simp only [getD_set_ne false (Ne.symm hj)]) n hin
      omega
    · have e : i ≠ k := by
        rintro rfl
        have hi' : i < listed.size := by rw [inv.size]; exact his
        simp [hi'] at hl
      rw [getD_set_ne false e] at hl
      exact hst.e i k w' w'' e hf hf' (hE k hk hl)
    · by_cases e : k = i
      · subst e
        simp only [updV, if_true]
        exact hRi
      · simp only [updV]
        rw [if_neg e]
        rw [getD_set_ne false (fun h => e h.symm)] at hl
        exact hst.r i k (u k) w' w'' (fun h => e h.symm) hf hf' (hR k hk hl)

/-- The region's rule: n operations in whatever order, then the others in theirs. C: what holds of every world on the way; T i: the blocks that operation i may turn; E i: what holds till operation i; R i: what is known of its value from then on. -/
theorem wp_region_all {P : Program} {id : Nat} {Q : Exit → Act → World → Prop} {a : Act} {w : World} {l : List Oper} (n : Nat) (C : World → Prop) (T : Nat → Nat → Prop) (E : Nat → World → Prop) (R : Nat → Value → World → Prop) (hm : P.follows .mixedOrders = true) (hB : growB l.toArray n = true)
    (hst : Stays C T E R) (hC : C w.drew) (hE : ∀ j, j < n → E j w.drew)
    (hh : headAll P l.toArray Q C T E (fun u => puts ((l.take n).map (·.dst)) 0 u a) R 0 (l.take n))
    (ht : ∀ u w', C w' → (∀ j, j < n → R j (u j) w') → wpList P l.toArray Q (l.drop n) (puts ((l.take n).map (·.dst)) 0 u a) w') : (Code.region id l.toArray true).wp P Q a w := by
  have ok := GrowOk.of hB
  obtain ⟨u0, hu0⟩ := puts_start ((l.take n).map (·.dst)) 0 a
  refine wp_region_any hm ?_
  have inv0 : HeadInv .any l.toArray n (Array.replicate l.toArray.size false) :=
    ⟨by simp, fun j oj _ hl => (by rw [getD_replicate_false] at hl; cases hl), fun t _ ht => getD_in (by simpa using ht) (getD_replicate_false _ _)⟩
  have hc : countU (fun j => !(Array.replicate l.toArray.size false).getD j false) n = n := by
    have h : ∀ m, countU (fun j => !(Array.replicate l.toArray.size false).getD j false) m = m := by
      intro m
      induction m with
      | zero => rfl
      | succ m ih => rw [countU, ih, getD_replicate_false]; rfl
    exact h n
  have := grow_go (P := P) (Q := Q) (a := a) ok hst (by simpa using hh) (by simpa using ht) n _ u0 w.drew inv0 hc hC (fun j hj _ => hE j hj) (fun j hj hl => by rw [getD_replicate_false] at hl; cases hl)
  rw [show (l.toArray.toList.take n).map (·.dst) = (l.take n).map (·.dst) by simp, hu0, show n + (l.toArray.size - n) = l.toArray.size by have := ok.le; omega] at this
  exact this

/-! ### By a list of facts, one for each operation; the operations only make memory -/
def factOf (RL : List (Value → World → Prop)) (j : Nat) : Value → World → Prop := RL.getD j (fun _ _ => True)
def Is (x : Value) : Value → World → Prop := fun v _ => v = x
def StableL (T : Nat → Prop) (w : World) : List (Value → World → Prop) → Prop
  | [] => True
  | p :: r => (∀ v w' w'', Fr T w w' → Fr T w' w'' → p v w' → p v w'') ∧ StableL T w r
theorem StableL.at_ {T : Nat → Prop} {w : World} : ∀ {RL : List (Value → World → Prop)}, StableL T w RL → ∀ j v w' w'', Fr T w w' → Fr T w' w'' → factOf RL j v w' → factOf RL j v w''
  | [], _, _, _, _, _, _, _, _ => trivial
  | _ :: _, h, 0, v, w', w'', h1, h2, h3 => h.1 v w' w'' h1 h2 h3
  | _ :: _, h, j + 1, v, w', w'', h1, h2, h3 => StableL.at_ h.2 j v w' w'' h1 h2 h3
theorem Is.stable {T : Nat → Prop} {w : World} (x : Value) : ∀ v w' w'', Fr T w w' → Fr T w' w'' → Is x v w' → Is x v w'' := fun _ _ _ _ _ h => h

def headOk (P : Program) (ops : Array Oper) (Q : Exit → Act → World → Prop) (T : Nat → Prop) (w : World) (F : (Nat → Value) → Act) (R : Nat → Value → World → Prop) : Nat → List Oper → Prop
  | _, [] => True
  | i, o :: r => (∀ u w', Fr T w w' → (∀ j, Region.waitsFor .any ops i j = true → R j (u j) w') → o.wp P (F u) w' (OneUp (F u) o.dst T w' (R i)) Q) ∧ headOk P ops Q T w F R (i + 1) r
theorem headOk.all {P : Program} {ops : Array Oper} {Q : Exit → Act → World → Prop} {T : Nat → Prop} {w : World} {F : (Nat → Value) → Act} {R : Nat → Value → World → Prop} : ∀ {l : List Oper} {k : Nat}, (l.all fun o => o.guard.isNone) = true → headOk P ops Q T w F R k l → headAll P ops Q (Fr T w) (fun _ => T) (fun _ _ => True) F R k l
  | [], _, _, _ => trivial
  | o :: r, k, hg, h => by
    simp only [List.all_cons, Bool.and_eq_true, Option.isNone_iff_eq_none] at hg
    exact ⟨fun u w' hw _ hR => .inl ⟨by simp [Region.wanted, hg.1], h.1 u w' hw hR⟩, headOk.all hg.2 h.2⟩

theorem wp_region_facts {P : Program} {id : Nat} {Q : Exit → Act → World → Prop} {a : Act} {w : World} {l : List Oper} (n : Nat) (T : Nat → Prop) (RL : List (Value → World → Prop)) (hm : P.follows .mixedOrders = true) (hB : (growB l.toArray n && (l.take n).all fun o => o.guard.isNone) = true)
    (hst : StableL T w RL)
    (hh : headOk P l.toArray Q T w (fun u => puts ((l.take n).map (·.dst)) 0 u a) (factOf RL) 0 (l.take n))
    (ht : ∀ u w', Fr T w w' → (∀ j, j < n → factOf RL j (u j) w') → wpList P l.toArray Q (l.drop n) (puts ((l.take n).map (·.dst)) 0 u a) w') : (Code.region id l.toArray true).wp P Q a w := by
  rw [Bool.and_eq_true] at hB
  exact wp_region_all n (Fr T w) (fun _ => T) (fun _ _ => True) (factOf RL) hm hB.1
    ⟨fun _ w' w'' h h' => h.trans h', fun _ _ _ _ _ _ _ _ => trivial, fun _ j v w' w'' _ h1 h2 h3 => hst.at_ j v w' w'' h1 h2 h3⟩ ((Fr.refl _ _).drew) (fun _ _ => trivial) (headOk.all hB.2 hh) ht
end Go.Proofs.YtkaghbpdnmigmaaDoor
