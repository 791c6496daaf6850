/- A drawn region whose operations read slots that it assigns behind (written by genSbM.py out of XSt). -/
import Derived.Test.YtpnchdgplpdefaaDoorSbL
namespace Go.Proofs.YtpnchdgplpdefaaDoor
open Go.RowKit Go.Shelf

def headSr (P : Program) (ops : Array Oper) (Q : Exit → Act → World → Prop) (T : Nat → Prop) (w : World) (F : (Nat → Value) → Act) (R : Nat → Value → World → Prop) (ws : List (Nat × (World → Prop))) (M0 : World → Prop) (B : Nat → Nat → Bool) (n : Nat) (I : List (Nat × Value)) : Nat → List Oper → Prop
  | _, [] => True
  | i, o :: r => (∀ u w' d, Fr T w w' → (∀ j, Region.waitsFor .any ops i j = true → R j (u j) w') → (∀ p, p < n → B p i = true → d p = true) → (∀ p, (p == i || B i p) = true → d p = false) → stage ws M0 d w' → (∀ x ∈ I, d x.1 = false → u x.1 = x.2) →
      wpW P ops Q o (F u) w' (OneSt (F u) o.dst (turnedW ws T i) w' (R i) (afterW ws i))) ∧ headSr P ops Q T w F R ws M0 B n I (i + 1) r

theorem headSr.at_ {P : Program} {ops : Array Oper} {Q : Exit → Act → World → Prop} {T : Nat → Prop} {w : World} {F : (Nat → Value) → Act} {R : Nat → Value → World → Prop} {ws : List (Nat × (World → Prop))} {M0 : World → Prop} {B : Nat → Nat → Bool} {n : Nat} {I : List (Nat × Value)} :
    ∀ {l : List Oper} {k : Nat}, headSr P ops Q T w F R ws M0 B n I k l → ∀ i o, l[i]? = some o → ∀ u w' d, Fr T w w' → (∀ j, Region.waitsFor .any ops (k + i) j = true → R j (u j) w') → (∀ p, p < n → B p (k + i) = true → d p = true) → (∀ p, (p == k + i || B (k + i) p) = true → d p = false) → stage ws M0 d w' → (∀ x ∈ I, d x.1 = false → u x.1 = x.2) →
      wpW P ops Q o (F u) w' (OneSt (F u) o.dst (turnedW ws T (k + i)) w' (R (k + i)) (afterW ws (k + i)))
  | [], _, _, _, _, h => by simp at h
  | o' :: r, k, h, 0, o, ho => by
    have : o' = o := by simpa using ho
    subst this
    exact h.1
  | o' :: r, k, h, i + 1, o, ho => by
    have := headSr.at_ h.2 i o (by simpa using ho)
    rw [show k + 1 + i = k + (i + 1) by omega] at this
    exact this

theorem sr_go {P : Program} {ops : Array Oper} {Q : Exit → Act → World → Prop} {T : Nat → Prop} {w : World} {a : Act} {RL : List (Value → World → Prop)} {ws : List (Nat × (World → Prop))} {M0 : World → Prop} {B : Nat → Nat → Bool} {n : Nat} {I : List (Nat × Value)} (ok : GrowS ops n) (hB : beforeB ops n B = true)
    (hch : (chainP B (ws.map (·.1)) && (ws.map (·.1)).all (fun p => decide (p < n))) = true)
    (hst : StableL T w RL) (hsw : StableW T w ws) (hs0 : ∀ w' w'', Fr T w w' → Fr Nothing w' w'' → M0 w' → M0 w'')
    (hh : headSr P ops Q T w (fun u => puts ((ops.toList.take n).map (·.dst)) 0 u a) (factOf RL) ws M0 B n I 0 (ops.toList.take n))
    (ht : ∀ u w', Fr T w w' → (∀ j, j < n → factOf RL j (u j) w') → lastW ws M0 w' → wpList P ops Q (ops.toList.drop n) (puts ((ops.toList.take n).map (·.dst)) 0 u a) w') :
    ∀ (f : Nat) (listed : Array Bool) (u : Nat → Value) (w' : World), HeadInv .any ops n listed → countU (fun j => !listed.getD j false) n = f → Fr T w w' → stage ws M0 (fun j => listed.getD j false) w' →
      (∀ j, j < n → listed.getD j false = true → factOf RL j (u j) w') → (∀ x ∈ I, listed.getD x.1 false = false → u x.1 = x.2) → wpAny P .any ops Q (f + (ops.size - n)) listed (puts ((ops.toList.take n).map (·.dst)) 0 u a) w' := by
  rw [Bool.and_eq_true] at hch
  have hlt : ∀ x ∈ ws, x.1 < n := fun x hx => by simpa using List.all_eq_true.1 hch.2 x.1 (List.mem_map.2 ⟨x, hx, rfl⟩)
  intro f
  induction f with
  | zero =>
    intro listed u w' inv hc hf hM hR hI
    have hall : ∀ j, j < n → listed.getD j false = true := fun j hj => by simpa using countU_zero _ n hc j hj
    have he : listed = Array.replicate n true ++ Array.replicate (ops.size - n) false := by
      apply Array.ext
      · rw [inv.size]; have := ok.le; simp; omega
      · intro i h1 h2
        rcases Nat.lt_or_ge i n with hi | hi
        · have := hall i hi
          rw [Array.getElem_append_left (by simpa using hi)]
          simpa [h1] using this
        · have := inv.tail i hi (by rw [← inv.size]; exact h1)
          rw [Array.getElem_append_right (by simpa using hi)]
          simpa [h1] using this
    rw [stage_all ws M0 _ (fun x hx => hall x.1 (hlt x hx))] at hM
    subst he
    have hdl : (ops.toList.drop n).length = ops.size - n := by simp
    have := wpAny_of_seq (P := P) (md := .any) (ops := ops) (Q' := Q) (ops.toList.drop n) n _ (puts ((ops.toList.take n).map (·.dst)) 0 u a) w' (fun j => by simp [List.getElem?_drop]) (by rw [hdl]; exact ok.seq) (ht u w' hf (fun j hj => hR j hj (hall j hj)) hM)
    rw [hdl] at this
    rwa [Nat.zero_add]
  | succ f ih =>
    intro listed u w' inv hc hf hM hR hI
    obtain ⟨j, hj, hun, hless⟩ := countU_pos (fun j => !listed.getD j false) n (by omega)
    have hjs : j < ops.size := by have := ok.le; omega
    have hunj : listed.getD j true = false := getD_in (by rw [inv.size]; exact hjs) (by simpa using hun)
    have hjr : j ∈ Region.ready .any ops listed := by
      refine mem_ready.2 ⟨hunj, ops[j], Array.getElem?_eq_getElem hjs, fun e he hb => ?_⟩
      have := ok.each j _ hj (Array.getElem?_eq_getElem hjs) e he hb
      simpa using hless e.on this
    rw [show f + 1 + (ops.size - n) = (f + (ops.size - n)) + 1 by omega]
    refine ⟨fun h0 => (by rw [h0] at hjr; cases hjr), fun i hi => ?_⟩
    obtain ⟨hiu, o, ho, hpre⟩ := mem_ready.1 hi
    have his : i < ops.size := (Array.getElem?_eq_some_iff.1 ho).1
    have hin : i < n := by
      rcases ok.tail with h | ⟨hs, hcn⟩
      · omega
      · rcases Nat.lt_or_ge i n with h | h
        · exact h
        · exact absurd hi (tail_waits hs hcn (by omega) inv (n - j) j rfl hj hunj i h)
    have hiF : listed.getD i false = false := getD_both hiu
    have hol : (ops.toList.take n)[i]? = some o := by rw [List.getElem?_take, if_pos hin]; simpa using ho
    have hwaits : ∀ k, Region.waitsFor .any ops i k = true → k < i ∧ listed.getD k false = true := by
      intro k hk
      obtain ⟨o', ho', e, he, hb, hon⟩ := Region.waitsFor_spec hk
      have : o' = o := Option.some.inj (ho'.symm.trans ho)
      subst this
      subst hon
      exact ⟨ok.each i _ hin ho e he hb, hpre e he hb⟩
    have hbefore : ∀ p, p < n → B p i = true → listed.getD p false = true := by
      intro p hp hb
      have h := List.all_eq_true.1 (List.all_eq_true.1 hB i (List.mem_range.2 hin)) p (List.mem_range.2 hp)
      simp only [hb, Bool.not_true, Bool.false_or, Bool.or_eq_true, List.any_eq_true, Bool.and_eq_true, List.mem_range] at h
      rcases h with h | ⟨k, hk, hw, hbk⟩
      · exact (hwaits p h).2
      · exact listed_before hB inv k (by omega) (hwaits k hw).2 p hp hbk
    have hbehind : ∀ p, (p == i || B i p) = true → listed.getD p false = false := by
      intro p hp
      simp only [Bool.or_eq_true, beq_iff_eq] at hp
      rcases hp with rfl | hb
      · exact hiF
      · rcases Nat.lt_or_ge p n with hpn | hpn
        · cases hl : listed.getD p false
          · rfl
          · have := listed_before hB inv p hpn hl i hin hb
            rw [hiF] at this
            cases this
        · rcases Nat.lt_or_ge p ops.size with h' | h'
          · exact getD_both (inv.tail p hpn h')
          · have : ¬ p < listed.size := by rw [inv.size]; omega
            simp [this]
    have hw := hh.at_ i o hol u w' (fun j => listed.getD j false) hf (fun k hk => by
      rw [Nat.zero_add] at hk
      exact hR k (by have := (hwaits k hk).1; omega) (hwaits k hk).2) (fun p hp hb => by rw [Nat.zero_add] at hb; exact hbefore p hp hb) (fun p hp => by rw [Nat.zero_add] at hp; exact hbehind p hp) hM hI
    rw [Nat.zero_add] at hw
    refine wpOp_of_wpW ho (wpW_mono (fun a' w'' hK => ?_) hw)
    obtain ⟨v, rfl, hf', hRi, hMi⟩ := hK
    have hfT : Fr T w' w'' := by
      unfold turnedW at hf'
      split at hf'
      · exact hf'
      · exact hf'.weak
    rw [puts_put2 _ 0 i u a o.dst v ok.nodup (by rw [List.getElem?_map, hol]; rfl), Nat.zero_add]
    have hset : (listed.setIfInBounds i true).getD i false = true := by
      have hi' : i < listed.size := by rw [inv.size]; exact his
      simp [hi']
    refine ih (listed.setIfInBounds i true) (updV u i v) w'' (inv.set hi hin) ?_ (hf.trans hfT) ?_ (fun k hk hl => ?_) (fun x hx hl => ?_)
    · have := countU_less (fun j => !listed.getD j false) (fun j => !(listed.setIfInBounds i true).getD j false) i (by simp only [hiF]; rfl) (by simp only [hset]; rfl) (fun j hj => by simp only [getD_set_ne false (Ne.symm hj)]) n hin
      omega
    · cases hwr : writesB ws i
      · have hfN : Fr Nothing w' w'' := by simpa [turnedW, hwr] using hf'
        have hcg := stage_congr ws M0 (fun j => (listed.setIfInBounds i true).getD j false) (fun j => listed.getD j false) (fun x hx => by
          have : i ≠ x.1 := by
            rintro rfl
            have : writesB ws x.1 = true := by
              simp only [writesB, List.any_eq_true, beq_iff_eq]
              exact ⟨x.1, List.mem_map.2 ⟨x, hx, rfl⟩, rfl⟩
            rw [hwr] at this
            cases this
          simp only [getD_set_ne false this])
        rw [hcg]
        exact stage_stable hf hfN ws M0 _ hsw hs0 hM
      · exact stage_write B i (fun j => listed.getD j false) _ w'' hset (fun q hq => by simp only [getD_set_ne false (Ne.symm hq)]) ws M0 hch.1 hwr (fun x hx hb => hbefore x.1 (hlt x hx) hb) (fun x hx hb => hbehind x.1 (by rw [hb, Bool.or_true])) hMi
    · by_cases e : k = i
      · subst e
        simp only [updV, if_true]
        exact hRi
      · simp only [updV]
        rw [if_neg e]
        rw [getD_set_ne false (fun h => e h.symm)] at hl
        exact hst.at_ k (u k) w' w'' hf hfT (hR k hk hl)
    · by_cases e : x.1 = i
      · rw [e] at hl
        rw [hset] at hl
        cases hl
      · simp only [updV]
        rw [if_neg e]
        rw [getD_set_ne false (fun h => e h.symm)] at hl
        exact hI x hx hl

theorem wp_region_sr {P : Program} {id : Nat} {Q : Exit → Act → World → Prop} {a : Act} {w : World} {l : List Oper} (I : List (Nat × Value)) (hI : ∀ u, puts (l.map (·.dst)) 0 u a = a → ∀ x ∈ I, u x.1 = x.2) (n : Nat) (T : Nat → Prop) (RL : List (Value → World → Prop)) (ws : List (Nat × (World → Prop))) (M0 : World → Prop) (B : Nat → Nat → Bool) (hn : (l.take n).map (·.dst) = l.map (·.dst)) (hm : P.follows .mixedOrders = true) (hg : growS l.toArray n = true)
    (hB : beforeB l.toArray n B = true) (hch : (chainP B (ws.map (·.1)) && (ws.map (·.1)).all (fun p => decide (p < n))) = true)
    (hst : StableL T w RL) (hsw : StableW T w ws) (hs0 : ∀ w' w'', Fr T w w' → Fr Nothing w' w'' → M0 w' → M0 w'') (h0 : M0 w.drew)
    (hh : headSr P l.toArray Q T w (fun u => puts ((l.take n).map (·.dst)) 0 u a) (factOf RL) ws M0 B n I 0 (l.take n))
    (ht : ∀ u w', Fr T w w' → (∀ j, j < n → factOf RL j (u j) w') → lastW ws M0 w' → wpList P l.toArray Q (l.drop n) (puts ((l.take n).map (·.dst)) 0 u a) w') : (Code.region id l.toArray true).wp P Q a w := by
  have ok := GrowS.of hg
  obtain ⟨u0, hu0⟩ := puts_start ((l.take n).map (·.dst)) 0 a
  refine wp_region_any hm ?_
  have inv0 : HeadInv .any l.toArray n (Array.replicate l.toArray.size false) :=
    ⟨by simp, fun j oj _ hl => (by rw [getD_replicate_false] at hl; cases hl), fun t _ ht => getD_in (by simpa using ht) (getD_replicate_false _ _)⟩
  have hc : countU (fun j => !(Array.replicate l.toArray.size false).getD j false) n = n := by
    have h : ∀ m, countU (fun j => !(Array.replicate l.toArray.size false).getD j false) m = m := by
      intro m
      induction m with
      | zero => rfl
      | succ m ih => rw [countU, ih, getD_replicate_false]; rfl
    exact h n
  have := sr_go (P := P) (Q := Q) (a := a) ok hB hch hst hsw hs0 (by simpa using hh) (by simpa using ht) n _ u0 w.drew inv0 hc ((Fr.refl _ _).drew) (by rw [stage_none ws M0 _ (fun x _ => getD_replicate_false _ _)]; exact h0) (fun j hj hl => by rw [getD_replicate_false] at hl; cases hl) (fun x hx _ => hI u0 (by rw [← hn]; exact hu0) x hx)
  rw [show (l.toArray.toList.take n).map (·.dst) = (l.take n).map (·.dst) by simp, hu0, show n + (l.toArray.size - n) = l.toArray.size by have := ok.le; omega] at this
  exact this

end Go.Proofs.YtpnchdgplpdefaaDoor
